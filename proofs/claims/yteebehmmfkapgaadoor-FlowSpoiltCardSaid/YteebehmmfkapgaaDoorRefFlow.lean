/- pappusref06: Feed takes bytes. -/
import Derived.Test.YteebehmmfkapgaaDoorFeed2
import Derived.Test.YteebehmmfkapgaaDoorRef05Get
namespace Go.Proofs.YteebehmmfkapgaaDoor
open Go.RowKit Go.Deep
set_option linter.unusedVariables false
set_option linter.unusedSimpArgs false
set_option maxRecDepth 100000
attribute [local go_sem ↓] Go.wp_at_zero Go.wp_at_succ

theorem Kp.low_from {S : Nat → Prop} {B : Nat} {w w' : World} (h : Kp S w w') (hS : ∀ i, i < B → ¬ S i) (hs : B ≤ w.heap.size) : Below B w w' := ⟨h.os, h.tape, h.output, h.size, fun i hi => h.block i (by omega) (hS i hi)⟩
namespace Flo
theorem get_err {x : List UInt8} : (Frm.get x).2.2.2 = 4 ∧ run x = ([], x, false) ∨ (Frm.get x).2.2.2 = 6 ∧ 0 < x.length ∧ run x = ([⟨[], [], 6⟩], [], true) ∨ (Frm.get x).2.2.2 = 5 ∧ 0 < x.length ∧ run x = ([⟨[], [], 5⟩], [], true) ∨
    ((Frm.get x).2.2.2 ≠ 4 ∧ (Frm.get x).2.2.2 ≠ 6 ∧ (Frm.get x).2.2.2 ≠ 5 ∧ 0 < (Frm.get x).2.2.1 ∧ (Frm.get x).2.2.1 ≤ x.length ∧ run x = (⟨(Frm.get x).1, (Frm.get x).2.1, (Frm.get x).2.2.2⟩ :: (run (x.drop (Frm.get x).2.2.1)).1, (run (x.drop (Frm.get x).2.2.1)).2)) := by
  by_cases h : x.length < 24
  · exact .inl ⟨by rw [get_short h], run_short h⟩
  · have h' : 24 ≤ x.length := by omega
    by_cases he : (Frm.head (x.take 24)).2 = 0
    · by_cases hp : x.length - 24 < (Frm.head (x.take 24)).1.len
      · exact .inl ⟨by rw [get_part h' he hp], run_part h' he hp⟩
      · have e := get_whole h' he (by omega)
        have hi := item_err (Frm.head (x.take 24)).1 ((x.drop 24).take (Frm.head (x.take 24)).1.len)
        simp only at e
        rw [e]
        refine .inr (.inr (.inr ⟨hi.1, fun h => hi.2 (.inl h), fun h => hi.2 (.inr h), by simp only; omega, by simp only; omega, ?_⟩))
        exact run_whole h' he (by omega)
    · have e := get_bad h' he
      have r := run_bad h' he
      have hl : (x.take 24).length = 24 := by rw [List.length_take]; omega
      rw [e]
      simp only
      rcases head_err hl with h0 | h0 | h0
      · exact absurd h0 he
      · rw [h0] at r ⊢; exact .inr (.inl ⟨rfl, by omega, r⟩)
      · rw [h0] at r ⊢; exact .inr (.inr (.inl ⟨rfl, by omega, r⟩))
end Flo
/-- how the document's flow lies in memory -/
def RefS (P : Nat → Prop) (w : World) (M : Nat) (s : List UInt8 × Bool) : Prop := ∃ A c, Bk w M 30 #[.slice A s.1.length c, .bool s.2] ∧ s.1.length ≤ c ∧ c ≤ maxLen ∧ BytesAt w w.heap.size A s.1 ∧ ∀ a, A = some a → 0 < s.1.length → P a.block
/-- the items so far, the bytes that are left -/
structure RefRel (w : World) (M : Nat) (total : Flo.Out) (vl : Value) (wr : World) (r : List UInt8) (d : Bool) (l : List Flo.Item) (A : Option Addr) (c n : Nat) : Prop where
  bk : Bk wr M 30 #[.slice A r.length c, .bool d]
  rc : r.length ≤ c
  cm : c ≤ maxLen
  at_ : BytesAt wr wr.heap.size A r
  own : ∀ a, A = some a → w.heap.size ≤ a.block ∧ vl.ownBlock ≠ some a.block
  tot : total = (l ++ (if d then ([], [], true) else Flo.run r).1, (if d then ([], [], true) else Flo.run r).2)
  dead : d = true → r = []
  len : l.length + r.length ≤ n
  row : RowT (fun i => w.heap.size ≤ i ∧ vl.ownBlock ≠ some i) w.heap.size wr vl l
  kp : Kp (fun i => i = M) w wr
theorem rowR_push {w wr W : World} {vl vl' u : Value} {x : Flo.Item} {l : List Flo.Item} {us : List Value} (hu : KeyP (fun i => w.heap.size ≤ i ∧ vl.ownBlock ≠ some i) wr u x.body) (e1 : us.length = l.length)
    (e3 : ∀ i (h : i < l.length), ∃ u, us[i]? = some u ∧ KeyP (fun i => w.heap.size ≤ i ∧ vl.ownBlock ≠ some i) wr u l[i].body)
    (hrow : W.ownsRow w.heap.size 52 3 vl' (l.length + 1) ((l.zip us).flatMap itemPair ++ itemCells x u)) (hg : wr.grownBy W vl.ownBlock) (hat : vl'.ownBlock = vl.ownBlock ∨ vl'.ownBlock = some wr.heap.size) :
    RowT (fun i => w.heap.size ≤ i ∧ vl'.ownBlock ≠ some i) w.heap.size W vl' (l ++ [x]) := by
  refine RowT.push (P := fun i => w.heap.size ≤ i ∧ vl.ownBlock ≠ some i) (Q := fun i => w.heap.size ≤ i ∧ vl.ownBlock ≠ some i) (us := us) (us2 := [u]) e1 e3 rfl (fun i hi => ?_) ?_ hg hat (fun i hp hlt => ⟨hp.2, fun hn => ⟨hp.1, hn⟩⟩) (fun i hp hlt => ⟨hp.2, fun hn => ⟨hp.1, hn⟩⟩)
  · have : i = 0 := by simpa using hi
    subst this
    exact ⟨u, rfl, hu⟩
  · simpa [itemPair] using hrow
/-- all that could be told is told -/
theorem RefRel.stop {w wr W : World} {M n c : Nat} {total : Flo.Out} {vl : Value} {r : List UInt8} {l : List Flo.Item} {A : Option Addr} {d : Bool} (h : RefRel w M total vl wr r d l A c n) (hr : d = true ∨ Flo.run r = ([], r, false)) (hM : M < w.heap.size) (hb : Below wr.heap.size wr W) :
    RefS (fun i => w.heap.size ≤ i) W M total.2 ∧ RowT (fun i => w.heap.size ≤ i ∧ vl.ownBlock ≠ some i) w.heap.size W vl total.1 ∧ Kp (fun i => i = M) w W := by
  have e : (if d = true then ([], [], true) else Flo.run r : Flo.Out) = ([], r, d) := by
    rcases hr with h1 | h1
    · subst h1; rw [h.dead rfl]; rfl
    · cases d with
      | true => rw [h.dead rfl]; rfl
      | false => exact h1
  rw [h.tot, e, List.append_nil]
  refine ⟨⟨A, c, h.bk.below hb h.bk.lt, h.rc, h.cm, (h.at_.below hb).mono hb.size, fun a ha _ => (h.own a ha).1⟩, ?_, h.kp.trans_of (Kp.of_below (S := fun _ => False) hb) (fun i _ h => h.elim)⟩
  exact h.row.kp (Kp.of_below (S := fun _ => False) hb) (fun _ _ h => h) (fun i hp _ => ⟨fun h => h, hp⟩)
theorem RefRel.bad {w wr W : World} {M n c : Nat} {total : Flo.Out} {vl vl' : Value} {r : List UInt8} {l : List Flo.Item} {A : Option Addr} {err : Int} (h : RefRel w M total vl wr r false l A c n) (hr : Flo.run r = ([⟨[], [], err⟩], [], true)) (hpos : 0 < r.length)
    (hb : Bk W M 30 #[.slice none 0 0, .bool true]) (hrow : RowT (fun i => w.heap.size ≤ i ∧ vl'.ownBlock ≠ some i) w.heap.size W vl' (l ++ [⟨[], [], err⟩])) (hk : Kp (fun i => i = M) w W) :
    ∃ r' d' l' A' c', RefRel w M total vl' W r' d' l' A' c' n := by
  have ht := h.tot
  have hlen := h.len
  refine ⟨[], true, l ++ [⟨[], [], err⟩], none, 0, hb, Nat.le_refl _, by simp [maxLen], fun i hi => (by simp at hi), fun a ha => (by cases ha), ?_, fun _ => rfl, by simp; omega, hrow, hk⟩
  rw [ht, if_neg (by simp), hr]
  simp
theorem RefRel.next {w wr W : World} {M n c m : Nat} {total : Flo.Out} {vl vl' : Value} {r : List UInt8} {l : List Flo.Item} {A A7 : Option Addr} {x : Flo.Item} (h : RefRel w M total vl wr r false l A c n) (hr : Flo.run r = (x :: (Flo.run (r.drop m)).1, (Flo.run (r.drop m)).2)) (hm0 : 0 < m) (hmr : m ≤ r.length)
    (hA : (if c = m then A else Option.map (fun x => x.add m) A) = A7) (hb : Bk W M 30 #[.slice A7 (r.length - m) (c - m), .bool false]) (hM : M < w.heap.size) (hwr : Kp (fun i => i = M) wr W ∨ (∃ wx, Kp (fun i => i = M) wr wx ∧ wx.grownBy W vl.ownBlock))
    (hat : vl'.ownBlock = vl.ownBlock ∨ ∃ wx, Kp (fun i => i = M) wr wx ∧ vl'.ownBlock = some wx.heap.size) (hrow : RowT (fun i => w.heap.size ≤ i ∧ vl'.ownBlock ≠ some i) w.heap.size W vl' (l ++ [x])) (hk : Kp (fun i => i = M) w W) :
    ∃ r' d' l' A' c', RefRel w M total vl' W r' d' l' A' c' n := by
  have ht := h.tot
  have hlen := h.len
  have hrc := h.rc
  have hcm := h.cm
  have hkr : Kp (fun i => i = M ∨ vl.ownBlock = some i) wr W := by
    rcases hwr with h1 | ⟨wx, h1, h2⟩
    · exact h1.mono (fun _ _ h => .inl h)
    · exact (h1.mono (fun _ _ h => .inl h) : Kp (fun i => i = M ∨ vl.ownBlock = some i) wr wx).grown h2 (fun k hk _ => .inr hk)
  have hblk : ∀ a, A7 = some a → ∃ a0, A = some a0 ∧ a.block = a0.block := by
    intro a ha
    rw [← hA] at ha
    by_cases e : c = m
    · rw [if_pos e] at ha; exact ⟨a, ha, rfl⟩
    · rw [if_neg e] at ha
      cases A with
      | none => cases ha
      | some y => cases ha; exact ⟨y, rfl, addr_block _ _⟩
  refine ⟨r.drop m, false, l ++ [x], A7, c - m, by rw [List.length_drop]; exact hb, by rw [List.length_drop]; omega, by omega, ?_, ?_, ?_, fun h => (by cases h), by rw [List.length_append, List.length_drop]; simp; omega, hrow, hk⟩
  · have hb7 : BytesAt wr wr.heap.size A7 (r.drop m) := by rw [← hA]; exact bytes_next h.at_ hmr hrc
    refine (BytesAt.kp_of hb7 (Nat.le_refl _) hkr (fun a ha _ _ e => ?_)).mono hkr.size
    obtain ⟨a0, ha0, hb0⟩ := hblk a ha
    have := h.own a0 ha0
    rcases e with e | e
    · omega
    · rw [hb0] at e; exact this.2 e
  · intro a ha
    obtain ⟨a0, ha0, hb0⟩ := hblk a ha
    have := h.own a0 ha0
    rw [hb0]
    refine ⟨this.1, fun e => ?_⟩
    rcases hat with h1 | ⟨wx, h1, h2⟩
    · rw [h1] at e; exact this.2 e
    · rw [h2] at e
      have e2 := Option.some.inj e
      have hz := h1.size
      rcases Nat.lt_or_ge m r.length with hlt | hge
      · obtain ⟨q, off, hA0, hq, _⟩ := h.at_.cell (i := 0) (by omega)
        rw [ha0] at hA0
        have := Option.some.inj hA0
        rw [this] at e2
        simp only at e2
        omega
      · obtain ⟨q, off, hA0, hq, _⟩ := h.at_.cell (i := 0) (by omega)
        rw [ha0] at hA0
        have := Option.some.inj hA0
        rw [this] at e2
        simp only at e2
        omega
  · rw [ht, if_neg (by simp), hr, if_neg (by simp)]
    simp
def RefInv (w : World) (M : Nat) (total : Flo.Out) (vl : Value) (wr : World) (n : Nat) : Prop := ∃ r d l A c, RefRel w M total vl wr r d l A c n
def restLen (w : World) (M : Nat) : Nat := match w.cell? ⟨M, 0, none⟩ with | some (.slice _ l _) => l | _ => 0
theorem restLen_is {w : World} {M l c : Nat} {A : Option Addr} (h : w.cell? ⟨M, 0, none⟩ = some (.slice A l c)) : restLen w M = l := by unfold restLen; rw [h]
set_option maxHeartbeats 4000000 in
theorem rfeed_any (M c : Nat) (A : Option Addr) (b : List UInt8) (s : List UInt8 × Bool) (P : Nat → Prop) (w : World) (hs : RefS P w M s) (hst : Flo.St s) (hat : BytesAt w w.heap.size A b)
    (hsl : s.1.length ≤ 1000000000) (hbl : b.length ≤ 1000000000) (hc : b.length ≤ c) (hm : c ≤ maxLen) :
    Calls Tryd.prog 15 #[.pointer (some ⟨M, 0, none⟩), .slice A b.length c] w fun e w' => ∃ vl, e = .returned vl ∧ RefS (fun i => w.heap.size ≤ i) w' M (Flo.feed s b).2 ∧ RowT (fun i => w.heap.size ≤ i ∧ vl.ownBlock ≠ some i) w.heap.size w' vl (Flo.feed s b).1 ∧ Kp (fun i => i = M) w w' := by
  obtain ⟨x, d⟩ := s
  obtain ⟨Ar, cr, hk, hrc, hrm, hrat, hrne⟩ := hs
  simp only at hk hrc hrm hrat hrne hsl
  have LTM := hk.lt
  have c0 : w.cell? ⟨M, 0, none⟩ = some (.slice Ar x.length cr) := (hk.cell 0).trans rfl
  have c1 : w.cell? ⟨M, 1, none⟩ = some (.bool d) := (hk.cell 1).trans rfl
  have fr := hk.frozen
  have HK := Lib.hid hk
  have HST := Lib.hid hst
  cases d with
  | true =>
    have hx : x = [] := hst.1 rfl
    have e : Flo.feed (x, true) b = ([], [], true) := rfl
    rw [e]
    have HX := Lib.hid hx
    clear hk hst hrat hat hrne hx e
    go_enter Tryd.func15, Tryd.ntmps15
    go_wp2_with fail
    go_ret
    have hk2 := HK.out
    rw [HX.out] at hk2
    exact ⟨_, rfl, ⟨Ar, cr, hk2, Nat.zero_le _, hrm, fun i hi => (by simp at hi), fun a _ h => absurd h (by decide)⟩, RowT.nil _ _ _, Kp.refl _ _⟩
  | false =>
    have e : Flo.feed (x, false) b = Flo.run (x ++ b) := rfl
    rw [e]
    obtain ⟨total, htot⟩ : ∃ t, t = Flo.run (x ++ b) := ⟨_, rfl⟩
    rw [← htot]
    have HT := Lib.hid htot
    have ka := (Kp.refl (fun _ => False) w).alloc (.cells #[] 5)
    have HS1 := Lib.hid (BytesAt.src (hrat.below (Joins.below_alloc1 w (.cells #[] 5))))
    have HAT := Lib.hid hat
    have HO := Lib.hid (show OwnB (w.alloc (.cells #[] 5)) w.heap.size (.slice (some ⟨w.heap.size, 0, none⟩) 0 0) [] from Bk.own (bs := []) (Bk.new _ _ _) (Nat.le_refl _) (by simp [maxLen]))
    obtain ⟨i0, hi, hz0, hz1', hz2⟩ := info_parts byte_info
    have Hi := Lib.hid hi
    have Hz := Lib.hid hz0
    have Hz1 := Lib.hid hz1'
    have Hz2 := Lib.hid hz2
    clear hk hst hrat hat hrne htot e hi hz0 hz1' hz2
    go_enter Tryd.func15, Tryd.ntmps15
    go_wp2_with (first
      | (at_builtin; refine wpList_app _ rfl (.tmp 15) (.tmp 19) _ rfl w.heap.size 5 i0 _ 1 1 Tryd.underlying28 Hi.out Hz.out Hz1.out Hz2.out rfl (by decide) (.slice (some ⟨w.heap.size, 0, none⟩) 0 0) 0 [] rfl HO.out Ar x.length cr (x.map byteV) rfl (by rw [List.length_map, Nat.mul_one]) HS1.out (oneCell_bytes _) (by unfold maxLen; omega) (by omega) (by simp) ?_; intro v4 w4 hrow4 hg4 hat4; rw [Nat.zero_add] at hrow4; have k4 : Kp (fun _ => False) w w4 := ka.grown hg4 (fun k hk hl => by simp [Value.ownBlock] at hk; omega); have hz4 := k4.size; have hsrc3 := BytesAt.src (HAT.out.below k4.below))
      | (at_builtin; refine wpList_app _ rfl (.tmp 20) (.tmp 21) _ rfl w.heap.size 5 i0 _ 1 1 Tryd.underlying28 Hi.out Hz.out Hz1.out Hz2.out rfl (by decide) v4 (x.length) _ rfl hrow4 A b.length c (b.map byteV) rfl (by rw [List.length_map, Nat.mul_one]) hsrc3 (oneCell_bytes _) (by unfold maxLen; omega) (by omega) hz4 ?_; intro v5 w5 hrow5 hg5 hat5; have k5 : Kp (fun _ => False) w w5 := k4.grown hg5 (fun k hk hl => by have := (own_lt hrow4 k hk).1; omega); obtain ⟨A5, cv5, rfl, hn5, hm5, hx5⟩ := own_form hrow5; clear hx5; have g0 := (k5.cell (p := ⟨M, 0, none⟩) LTM (fun h => h)).trans c0; have g1 := (k5.cell (p := ⟨M, 1, none⟩) LTM (fun h => h)).trans c1; have gf := (k5.frozen (p := ⟨M, 0, none⟩) LTM (fun h => h)).trans (fr 0)))
    obtain ⟨W5, hW5⟩ : ∃ W5, W5 = w5.setCell ⟨M, 0, none⟩ (.slice A5 (x.length + b.length) cv5) := ⟨_, rfl⟩
    rw [← hW5]
    have hxb : (x ++ b).length = x.length + b.length := by simp
    have kM : Kp (fun i => i = M) w5 W5 := by rw [hW5]; exact kp_cell1 _ _ _ _
    have HM5 : Hid (Bk W5 M 30 #[.slice A5 (x ++ b).length cv5, .bool false]) := Lib.hid (by
      rw [hW5, hxb]
      exact (HK.out.kp k5 (fun h => h)).set 0 _)
    have hown5 : OwnB W5 w.heap.size (.slice A5 (x.length + b.length) cv5) (x ++ b) := by
      show W5.ownsRow _ _ 1 _ _ _
      rw [hxb, List.map_append]
      exact own_kp2 (by simpa using hrow5) kM (fun i hi e => by have := (own_lt hrow5 i hi).1; omega)
    obtain ⟨A6, c6, hv6, hc6, hm6, hb6, ho6⟩ := hown5.at_
    injection hv6 with hA6 hn6 hcc6
    clear hn6
    subst hA6
    subst hcc6
    have HB5 := Lib.hid hb6
    have HO5 := Lib.hid ho6
    have HKP := Lib.hid (((k5.mono (fun _ _ h => h.elim)).trans kM : Kp (fun i => i = M) w W5))
    clear g0 g1 gf fr c0 c1 hrow4 hg4 hat4 k4 hsrc3 hrow5 hg5 hat5 k5 kM hown5 hb6 ho6 hW5 HS1 HAT HO HK ka
    obtain ⟨n, hn⟩ : ∃ n, n = (x ++ b).length := ⟨_, rfl⟩
    have hn2 : n ≤ 2000000000 := by omega
    have HN := Lib.hid hn
    clear hn hxb
    go_loopw [5] (fun vl wr => RefInv w M total vl wr n) (fun _ wr => restLen wr M)
    case atStart => exact ⟨x ++ b, false, [], A5, cv5, HM5.out, hc6, hm6, HB5.out, fun a ha => ⟨(HO5.out a ha).1, fun h => (by cases h)⟩, by rw [HT.out]; rfl, fun h => (by cases h), by rw [HN.out]; simp, RowT.nil _ _ _, HKP.out⟩
    case round =>
      clear HB5 HO5 HM5 HKP HT hm6 hm5 hc6 hn5 hc hm
      obtain ⟨r, d, l, A, c, hrel⟩ := hrel
      have HREL := Lib.hid hrel
      obtain ⟨hk, hrc, hcm, hat, hown, htot, hdd, hlen, hrow, hkp⟩ := hrel
      have c0 : wr.cell? ⟨M, 0, none⟩ = some (.slice A r.length c) := (hk.cell 0).trans rfl
      have c1 : wr.cell? ⟨M, 1, none⟩ = some (.bool d) := (hk.cell 1).trans rfl
      have fr := hk.frozen
      have HK := Lib.hid hk
      have HAT := Lib.hid hat
      have LTW : M < wr.heap.size := hk.lt
      clear hk hat hown htot hdd hrow hkp
      unfold maxLen at hcm
      cases d with
      | true =>
        go_wp2_with fail
        go_ret
        obtain ⟨r1, r2, r3⟩ := HREL.out.stop (.inl rfl) LTM (Below.refl _ _)
        exact ⟨_, rfl, r1, r2, r3⟩
      | false =>
        have HG := Lib.hid (rg_any A c wr.heap.size r.length r wr rfl hrc (by unfold maxLen; omega) (by omega) HAT.out (Nat.le_refl _))
        go_wp2_with fail
        refine HG.out.mono ?_
        rintro e w2 ⟨v, rfl, hov, hb2⟩
        have hge := Flo.get_err (x := r)
        obtain ⟨⟨cmd, body, m, err⟩, hg⟩ : ∃ g, g = Frm.get r := ⟨_, rfl⟩
        rw [← hg] at hov hge ⊢
        simp only at hov hge ⊢
        have HGG := Lib.hid hg
        have HGE := Lib.hid hge
        have HOV := Lib.hid hov
        have HB2 := Lib.hid hb2
        have d0 := (hb2.cell (p := ⟨M, 0, none⟩) LTW).trans c0
        have d1 := (hb2.cell (p := ⟨M, 1, none⟩) LTW).trans c1
        have fr2 := fun i => (hb2.frozen (p := ⟨M, i, none⟩) LTW).trans (fr i)
        clear hg hge hov hb2 c0 c1 fr HG
        rcases HGE.out with ⟨he, hrun⟩ | ⟨he, hpos, hrun⟩ | ⟨he, hpos, hrun⟩ | ⟨he4, he6, he5, hm0, hmr, hrun⟩
        · subst he
          have HR := Lib.hid hrun
          clear hrun
          go_wp2_with fail
          go_ret
          obtain ⟨r1, r2, r3⟩ := HREL.out.stop (.inr HR.out) LTM HB2.out
          exact ⟨_, rfl, r1, r2, r3⟩
        · subst he
          have HR := Lib.hid hrun
          clear hrun
          go_upto_region 16 with (fail)
          obtain ⟨W3, hW3⟩ : ∃ W3, W3 = (w2.setCell ⟨M, 1, none⟩ (.bool true)).setCell ⟨M, 0, none⟩ (.slice none 0 0) := ⟨_, rfl⟩
          rw [← hW3]
          have k3 : Bk W3 M 30 #[.slice none 0 0, .bool true] := by rw [hW3]; exact ((HK.out.below HB2.out LTW).set 1 _).set 0 _
          have kp3 : Kp (fun i => i = M) wr W3 := by rw [hW3]; exact (((Kp.of_below (S := fun i => i = M) HB2.out).setCell (p := ⟨M, 1, none⟩) (fun _ => rfl) _).setCell (p := ⟨M, 0, none⟩) (fun _ => rfl) _)
          have kp4 := kp3.alloc (.cells #[.string ⟨#[]⟩, .slice none 0 0, .int .i64 6] 52)
          have k4 := k3.alloc (.cells #[.string ⟨#[]⟩, .slice none 0 0, .int .i64 6] 52)
          have row4 := HREL.out.row.kp (Q := fun i => w.heap.size ≤ i ∧ u5.ownBlock ≠ some i) kp4 (fun i hi e => by have := (HREL.out.row.lt i hi).1; omega) (fun i hp _ => ⟨fun e => by have := hp.1; omega, hp⟩)
          have hkw := HREL.out.kp.trans kp4
          have HLT4 := Lib.hid row4.lt
          obtain ⟨us, e1, e2, e3⟩ := row4
          have HE2 := Lib.hid e2
          have HE3 := Lib.hid e3
          have K4 := Lib.hid k4
          have KW := Lib.hid hkw
          have HZ := Lib.hid hkw.size
          have HSRC := Lib.hid (Src.at_ W3 [.string ⟨#[]⟩, .slice none 0 0, .int .i64 6] 52 #[.string ⟨#[]⟩, .slice none 0 0, .int .i64 6] W3.heap.size rfl rfl)
          obtain ⟨i1, hi, hz0, hz1', hz2⟩ := info_parts item_info
          have Ji := Lib.hid hi
          have Jz := Lib.hid hz0
          have Jz1 := Lib.hid hz1'
          have Jz2 := Lib.hid hz2
          clear hi hz0 hz1' hz2 e3 e2 k4 hkw kp4 kp3 k3 hW3 d0 d1 fr2
          go_wp2_with (at_builtin; refine wpList_app _ rfl (.tmp 69) (.tmp 72) _ rfl w.heap.size 52 i1 _ 3 48 Tryd.underlying32 Ji.out Jz.out Jz1.out Jz2.out rfl (by decide) u5 l.length ((l.zip us).flatMap itemPair) rfl HE2.out (some ⟨W3.heap.size, 0, none⟩) 1 1 [.string ⟨#[]⟩, .slice none 0 0, .int .i64 6] rfl rfl HSRC.out (itemCells_one ⟨[], [], 6⟩ none 0 0) (by unfold maxLen; omega) (by omega) HZ.out ?_; intro v9 w9 hrow9 hg9 hat9)
          have k9 : Bk w9 M _ _ := K4.out.kp (S := fun i => u5.ownBlock = some i) ((Kp.refl _ _).grown hg9 (fun k hk _ => hk)) (fun e => by have := (HLT4.out _ e).1; omega)
          go_roundw
          case rel => exact HREL.out.bad HR.out hpos k9 (rowR_push KeyP.nil e1 HE3.out hrow9 hg9 hat9) (KW.out.grown hg9 (fun k hk hl => by have := (HLT4.out _ hk).1; omega))
          case measure =>
            have c9 : w9.cell? ⟨M, 0, none⟩ = some (.slice none 0 0) := (k9.cell 0).trans rfl
            have c0 : wr.cell? ⟨M, 0, none⟩ = some (.slice A r.length c) := (HK.out.cell 0).trans rfl
            rw [restLen_is c9, restLen_is c0]
            omega
        · subst he
          have HR := Lib.hid hrun
          clear hrun
          go_upto_region 16 with (fail)
          obtain ⟨W3, hW3⟩ : ∃ W3, W3 = (w2.setCell ⟨M, 1, none⟩ (.bool true)).setCell ⟨M, 0, none⟩ (.slice none 0 0) := ⟨_, rfl⟩
          rw [← hW3]
          have k3 : Bk W3 M 30 #[.slice none 0 0, .bool true] := by rw [hW3]; exact ((HK.out.below HB2.out LTW).set 1 _).set 0 _
          have kp3 : Kp (fun i => i = M) wr W3 := by rw [hW3]; exact (((Kp.of_below (S := fun i => i = M) HB2.out).setCell (p := ⟨M, 1, none⟩) (fun _ => rfl) _).setCell (p := ⟨M, 0, none⟩) (fun _ => rfl) _)
          have kp4 := kp3.alloc (.cells #[.string ⟨#[]⟩, .slice none 0 0, .int .i64 5] 52)
          have k4 := k3.alloc (.cells #[.string ⟨#[]⟩, .slice none 0 0, .int .i64 5] 52)
          have row4 := HREL.out.row.kp (Q := fun i => w.heap.size ≤ i ∧ u5.ownBlock ≠ some i) kp4 (fun i hi e => by have := (HREL.out.row.lt i hi).1; omega) (fun i hp _ => ⟨fun e => by have := hp.1; omega, hp⟩)
          have hkw := HREL.out.kp.trans kp4
          have HLT4 := Lib.hid row4.lt
          obtain ⟨us, e1, e2, e3⟩ := row4
          have HE2 := Lib.hid e2
          have HE3 := Lib.hid e3
          have K4 := Lib.hid k4
          have KW := Lib.hid hkw
          have HZ := Lib.hid hkw.size
          have HSRC := Lib.hid (Src.at_ W3 [.string ⟨#[]⟩, .slice none 0 0, .int .i64 5] 52 #[.string ⟨#[]⟩, .slice none 0 0, .int .i64 5] W3.heap.size rfl rfl)
          obtain ⟨i1, hi, hz0, hz1', hz2⟩ := info_parts item_info
          have Ji := Lib.hid hi
          have Jz := Lib.hid hz0
          have Jz1 := Lib.hid hz1'
          have Jz2 := Lib.hid hz2
          clear hi hz0 hz1' hz2 e3 e2 k4 hkw kp4 kp3 k3 hW3 d0 d1 fr2
          go_wp2_with (at_builtin; refine wpList_app _ rfl (.tmp 69) (.tmp 72) _ rfl w.heap.size 52 i1 _ 3 48 Tryd.underlying32 Ji.out Jz.out Jz1.out Jz2.out rfl (by decide) u5 l.length ((l.zip us).flatMap itemPair) rfl HE2.out (some ⟨W3.heap.size, 0, none⟩) 1 1 [.string ⟨#[]⟩, .slice none 0 0, .int .i64 5] rfl rfl HSRC.out (itemCells_one ⟨[], [], 5⟩ none 0 0) (by unfold maxLen; omega) (by omega) HZ.out ?_; intro v9 w9 hrow9 hg9 hat9)
          have k9 : Bk w9 M _ _ := K4.out.kp (S := fun i => u5.ownBlock = some i) ((Kp.refl _ _).grown hg9 (fun k hk _ => hk)) (fun e => by have := (HLT4.out _ e).1; omega)
          go_roundw
          case rel => exact HREL.out.bad HR.out hpos k9 (rowR_push KeyP.nil e1 HE3.out hrow9 hg9 hat9) (KW.out.grown hg9 (fun k hk hl => by have := (HLT4.out _ hk).1; omega))
          case measure =>
            have c9 : w9.cell? ⟨M, 0, none⟩ = some (.slice none 0 0) := (k9.cell 0).trans rfl
            have c0 : wr.cell? ⟨M, 0, none⟩ = some (.slice A r.length c) := (HK.out.cell 0).trans rfl
            rw [restLen_is c9, restLen_is c0]
            omega
        · have h4 : (err == 4) = false := by rw [beq_eq_false_iff_ne]; exact he4
          have h5 : (err == 5) = false := by rw [beq_eq_false_iff_ne]; exact he5
          have h6 : (err == 6) = false := by rw [beq_eq_false_iff_ne]; exact he6
          have HR := Lib.hid hrun
          obtain ⟨A2, c2, rfl, hc2, hm2, hat2, hown2⟩ := HOV.out.at_
          have HAT2 := Lib.hid hat2
          have HOW2 := Lib.hid hown2
          have hmi : (m : Int) ≤ (r.length : Int) := by omega
          have hmc : (m : Int) ≤ (c : Int) := by omega
          have hm00 : (0 : Int) ≤ (m : Int) := by omega
          clear hrun hat2 hown2
          go_upto_region 9 with (fail)
          generalize hA7 : (if c = m then A else Option.map (fun x => x.add m) A) = A7
          have HA7 := Lib.hid hA7
          obtain ⟨W3, hW3⟩ : ∃ W3, W3 = w2.setCell ⟨M, 0, none⟩ (.slice A7 (r.length - m) (c - m)) := ⟨_, rfl⟩
          rw [← hW3]
          have k3 : Bk W3 M 30 #[.slice A7 (r.length - m) (c - m), .bool false] := by rw [hW3]; exact (HK.out.below HB2.out LTW).set 0 _
          have kp3 : Kp (fun i => i = M) wr W3 := by rw [hW3]; exact ((Kp.of_below (S := fun i => i = M) HB2.out).setCell (p := ⟨M, 0, none⟩) (fun _ => rfl) _)
          have kp23 : Kp (fun i => i = M) w2 W3 := by rw [hW3]; exact kp_cell1 _ _ _ _
          have kp4 := kp3.alloc (.cells #[.string ⟨cmd.toArray⟩, .slice A2 body.length c2, .int .i64 err] 52)
          have kp24 := kp23.alloc (.cells #[.string ⟨cmd.toArray⟩, .slice A2 body.length c2, .int .i64 err] 52)
          have k4 := k3.alloc (.cells #[.string ⟨cmd.toArray⟩, .slice A2 body.length c2, .int .i64 err] 52)
          have row4 := HREL.out.row.kp (Q := fun i => w.heap.size ≤ i ∧ u5.ownBlock ≠ some i) kp4 (fun i hi e => by have := (HREL.out.row.lt i hi).1; omega) (fun i hp _ => ⟨fun e => by have := hp.1; omega, hp⟩)
          have hkw := HREL.out.kp.trans kp4
          have hzr := HREL.out.kp.size
          have HLT4 := Lib.hid row4.lt
          have HKEY : Hid (KeyP (fun i => w.heap.size ≤ i ∧ u5.ownBlock ≠ some i) (W3.alloc (.cells #[.string ⟨cmd.toArray⟩, .slice A2 body.length c2, .int .i64 err] 52)) (.slice A2 body.length c2) body) :=
            Lib.hid ⟨A2, c2, rfl, hc2, hm2, (BytesAt.kp_of HAT2.out (Nat.le_refl _) kp24 (fun a ha _ _ e => by have := (HOW2.out a ha).1; omega)).mono kp24.size, fun a ha => ⟨⟨by have := (HOW2.out a ha).1; omega, fun e => by have := (HREL.out.row.lt _ e).2; have := (HOW2.out a ha).1; omega⟩, Nat.lt_of_lt_of_le (HOW2.out a ha).2 kp24.size⟩⟩
          obtain ⟨us, e1, e2, e3⟩ := row4
          have HE2 := Lib.hid e2
          have HE3 := Lib.hid e3
          have K4 := Lib.hid k4
          have KP4 := Lib.hid kp4
          have KW := Lib.hid hkw
          have HZ := Lib.hid hkw.size
          have HSRC := Lib.hid (Src.at_ W3 [.string ⟨cmd.toArray⟩, .slice A2 body.length c2, .int .i64 err] 52 #[.string ⟨cmd.toArray⟩, .slice A2 body.length c2, .int .i64 err] W3.heap.size rfl rfl)
          obtain ⟨i1, hi, hz0, hz1', hz2⟩ := info_parts item_info
          have Ji := Lib.hid hi
          have Jz := Lib.hid hz0
          have Jz1 := Lib.hid hz1'
          have Jz2 := Lib.hid hz2
          clear hi hz0 hz1' hz2 e3 e2 k4 hkw kp4 kp3 k3 hW3 d0 d1 fr2 hA7 kp23 kp24
          go_wp2_with (at_builtin; refine wpList_app _ rfl (.tmp 50) (.tmp 55) _ rfl w.heap.size 52 i1 _ 3 48 Tryd.underlying32 Ji.out Jz.out Jz1.out Jz2.out rfl (by decide) u5 l.length ((l.zip us).flatMap itemPair) rfl HE2.out (some ⟨W3.heap.size, 0, none⟩) 1 1 [.string ⟨cmd.toArray⟩, .slice A2 body.length c2, .int .i64 err] rfl rfl HSRC.out (itemCells_one ⟨cmd, body, err⟩ A2 body.length c2) (by unfold maxLen; omega) (by omega) HZ.out ?_; intro v9 w9 hrow9 hg9 hat9)
          have k9 : Bk w9 M _ _ := K4.out.kp (S := fun i => u5.ownBlock = some i) ((Kp.refl _ _).grown hg9 (fun k hk _ => hk)) (fun e => by have := (HLT4.out _ e).1; omega)
          go_roundw
          case rel =>
            exact HREL.out.next HR.out hm0 hmr HA7.out k9 LTM (.inr ⟨_, KP4.out, hg9⟩) (hat9.elim .inl (fun h => .inr ⟨_, KP4.out, h⟩)) (rowR_push HKEY.out e1 HE3.out hrow9 hg9 hat9) (KW.out.grown hg9 (fun k hk hl => by have := (HLT4.out _ hk).1; omega))
          case measure =>
            have c9 : w9.cell? ⟨M, 0, none⟩ = some (.slice A7 (r.length - m) (c - m)) := (k9.cell 0).trans rfl
            have c0 : wr.cell? ⟨M, 0, none⟩ = some (.slice A r.length c) := (HK.out.cell 0).trans rfl
            rw [restLen_is c9, restLen_is c0]
            omega
end Go.Proofs.YteebehmmfkapgaaDoor
