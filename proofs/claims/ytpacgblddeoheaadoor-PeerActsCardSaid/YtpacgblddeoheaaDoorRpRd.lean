/- RpRd, merged: RefLane, RpRead. -/
import Derived.Test.YtpacgblddeoheaaDoorFeedA
import Derived.Test.YtpacgblddeoheaaDoorRef5
import Derived.Test.YtpacgblddeoheaaDoorPrRows
import Derived.Test.YtpacgblddeoheaaDoorMsgRG
/- pappusref06: Feed takes bytes; the flow lies at an offset within a block. -/
namespace Go.Proofs.YtpacgblddeoheaaDoor
open Go.RowKit Go.Deep
set_option linter.unusedVariables false
set_option linter.unusedSimpArgs false
set_option maxRecDepth 100000
attribute [local go_sem ↓] Go.wp_at_zero Go.wp_at_succ

theorem Kp.low_from {S : Nat → Prop} {B : Nat} {w w' : World} (h : Kp S w w') (hS : ∀ i, i < B → ¬ S i) (hs : B ≤ w.heap.size) : Below B w w' := ⟨h.os, h.tape, h.output, h.size, fun i hi => h.block i (by omega) (hS i hi)⟩
namespace Flo
theorem get_err {x : List UInt8} : (Frm.get x).2.2.2 = 4 ∧ run x = ([], x, false) ∨ (Frm.get x).2.2.2 = 6 ∧ 0 < x.length ∧ run x = ([⟨[], [], 6⟩], [], true) ∨ (Frm.get x).2.2.2 = 5 ∧ 0 < x.length ∧ run x = ([⟨[], [], 5⟩], [], true) ∨
    ((Frm.get x).2.2.2 ≠ 4 ∧ (Frm.get x).2.2.2 ≠ 6 ∧ (Frm.get x).2.2.2 ≠ 5 ∧ 0 < (Frm.get x).2.2.1 ∧ (Frm.get x).2.2.1 ≤ x.length ∧ run x = (⟨(Frm.get x).1, (Frm.get x).2.1, (Frm.get x).2.2.2⟩ :: (run (x.drop (Frm.get x).2.2.1)).1, (run (x.drop (Frm.get x).2.2.1)).2)) := by
  by_cases h : x.length < 24
  · exact .inl ⟨by rw [get_short h], run_short h⟩
  · have h' : 24 ≤ x.length := by omega
    by_cases he : (Frm.head (x.take 24)).2 = 0
    · by_cases hp : x.length - 24 < (Frm.head (x.take 24)).1.len
      · exact .inl ⟨by rw [get_part h' he hp], run_part h' he hp⟩
      · have e := get_whole h' he (by omega)
        have hi := item_err (Frm.head (x.take 24)).1 ((x.drop 24).take (Frm.head (x.take 24)).1.len)
        simp only at e
        rw [e]
        refine .inr (.inr (.inr ⟨hi.1, fun h => hi.2 (.inl h), fun h => hi.2 (.inr h), by simp only; omega, by simp only; omega, ?_⟩))
        exact run_whole h' he (by omega)
    · have e := get_bad h' he
      have r := run_bad h' he
      have hl : (x.take 24).length = 24 := by rw [List.length_take]; omega
      rw [e]
      simp only
      rcases head_err hl with h0 | h0 | h0
      · exact absurd h0 he
      · rw [h0] at r ⊢; exact .inr (.inl ⟨rfl, by omega, r⟩)
      · rw [h0] at r ⊢; exact .inr (.inr (.inl ⟨rfl, by omega, r⟩))
end Flo
/-- the block in which a flow lies -/
structure FX where
  T : Nat
  cs : Array Value
def FB (Y : FX) (o : Nat) (w : World) (M : Nat) (v e : Value) : Prop := Bk w M Y.T ((Y.cs.setIfInBounds o v).setIfInBounds (o + 1) e) ∧ o + 1 < Y.cs.size
namespace FB
variable {Y : FX} {o M : Nat} {w w' : World} {v e : Value}
theorem lt (h : FB Y o w M v e) : M < w.heap.size := h.1.lt
theorem frozen (h : FB Y o w M v e) (i : Nat) : w.frozen? ⟨M, i, none⟩ = false := h.1.frozen i
theorem alloc (h : FB Y o w M v e) (x : Obj) : FB Y o (w.alloc x) M v e := ⟨h.1.alloc x, h.2⟩
theorem kp {S : Nat → Prop} (h : FB Y o w M v e) (k : Kp S w w') (hn : ¬ S M) : FB Y o w' M v e := ⟨h.1.kp k hn, h.2⟩
theorem below {B : Nat} (h : FB Y o w M v e) (k : Below B w w') (hb : M < B) : FB Y o w' M v e := ⟨h.1.below k hb, h.2⟩
theorem c0 (h : FB Y o w M v e) : w.cell? ⟨M, o, none⟩ = some v := by
  have hz := h.2
  rw [h.1.cell]
  simp only [Array.getElem?_setIfInBounds, Array.size_setIfInBounds]
  rw [if_neg (by omega), if_pos trivial, if_pos (by omega)]
theorem c1 (h : FB Y o w M v e) : w.cell? ⟨M, o + 1, none⟩ = some e := by
  have hz := h.2
  rw [h.1.cell]
  simp only [Array.getElem?_setIfInBounds, Array.size_setIfInBounds]
  rw [if_pos trivial, if_pos (by omega)]
theorem set0 (h : FB Y o w M v e) (u : Value) : FB Y o (w.setCell ⟨M, o, none⟩ u) M u e := by
  refine ⟨?_, h.2⟩
  have := h.1.set o u
  rwa [show ((Y.cs.setIfInBounds o v).setIfInBounds (o + 1) e).setIfInBounds o u = (Y.cs.setIfInBounds o u).setIfInBounds (o + 1) e by
    apply Array.ext_getElem?
    intro i
    simp only [Array.getElem?_setIfInBounds, Array.size_setIfInBounds]
    repeat' split
    all_goals first | rfl | omega] at this
theorem set1 (h : FB Y o w M v e) (u : Value) : FB Y o (w.setCell ⟨M, o + 1, none⟩ u) M v u := by
  refine ⟨?_, h.2⟩
  have := h.1.set (o + 1) u
  rwa [show ((Y.cs.setIfInBounds o v).setIfInBounds (o + 1) e).setIfInBounds (o + 1) u = (Y.cs.setIfInBounds o v).setIfInBounds (o + 1) u by
    apply Array.ext_getElem?
    intro i
    simp only [Array.getElem?_setIfInBounds, Array.size_setIfInBounds]
    repeat' split
    all_goals first | rfl | omega] at this
end FB
/-- how the document's flow lies in memory -/
def RefS (Y : FX) (o : Nat) (P : Nat → Prop) (w : World) (M : Nat) (s : List UInt8 × Bool) : Prop := ∃ A c, FB Y o w M (.slice A s.1.length c) (.bool s.2) ∧ s.1.length ≤ c ∧ c ≤ maxLen ∧ BytesAt w w.heap.size A s.1 ∧ ∀ a, A = some a → 0 < s.1.length → P a.block
/-- the items so far, the bytes that are left -/
structure RefRel (Y : FX) (o : Nat) (w : World) (M : Nat) (total : Flo.Out) (vl : Value) (wr : World) (r : List UInt8) (d : Bool) (l : List Flo.Item) (A : Option Addr) (c n : Nat) : Prop where
  bk : FB Y o wr M (.slice A r.length c) (.bool d)
  rc : r.length ≤ c
  cm : c ≤ maxLen
  at_ : BytesAt wr wr.heap.size A r
  own : ∀ a, A = some a → w.heap.size ≤ a.block ∧ vl.ownBlock ≠ some a.block
  tot : total = (l ++ (if d then ([], [], true) else Flo.run r).1, (if d then ([], [], true) else Flo.run r).2)
  dead : d = true → r = []
  len : l.length + r.length ≤ n
  row : RowT (fun i => w.heap.size ≤ i ∧ vl.ownBlock ≠ some i) w.heap.size wr vl l
  kp : Kp (fun i => i = M) w wr
theorem rowR_push {w wr W : World} {vl vl' u : Value} {x : Flo.Item} {l : List Flo.Item} {us : List Value} (hu : KeyP (fun i => w.heap.size ≤ i ∧ vl.ownBlock ≠ some i) wr u x.body) (e1 : us.length = l.length)
    (e3 : ∀ i (h : i < l.length), ∃ u, us[i]? = some u ∧ KeyP (fun i => w.heap.size ≤ i ∧ vl.ownBlock ≠ some i) wr u l[i].body)
    (hrow : W.ownsRow w.heap.size 90 3 vl' (l.length + 1) ((l.zip us).flatMap itemPair ++ itemCells x u)) (hg : wr.grownBy W vl.ownBlock) (hat : vl'.ownBlock = vl.ownBlock ∨ vl'.ownBlock = some wr.heap.size) :
    RowT (fun i => w.heap.size ≤ i ∧ vl'.ownBlock ≠ some i) w.heap.size W vl' (l ++ [x]) := by
  refine RowT.push (P := fun i => w.heap.size ≤ i ∧ vl.ownBlock ≠ some i) (Q := fun i => w.heap.size ≤ i ∧ vl.ownBlock ≠ some i) (us := us) (us2 := [u]) e1 e3 rfl (fun i hi => ?_) ?_ hg hat (fun i hp hlt => ⟨hp.2, fun hn => ⟨hp.1, hn⟩⟩) (fun i hp hlt => ⟨hp.2, fun hn => ⟨hp.1, hn⟩⟩)
  · have : i = 0 := by simpa using hi
    subst this
    exact ⟨u, rfl, hu⟩
  · simpa [itemPair] using hrow
/-- all that could be told is told -/
theorem RefRel.stop {Y : FX} {o : Nat} {w wr W : World} {M n c : Nat} {total : Flo.Out} {vl : Value} {r : List UInt8} {l : List Flo.Item} {A : Option Addr} {d : Bool} (h : RefRel Y o w M total vl wr r d l A c n) (hr : d = true ∨ Flo.run r = ([], r, false)) (hM : M < w.heap.size) (hb : Below wr.heap.size wr W) :
    RefS Y o (fun i => w.heap.size ≤ i) W M total.2 ∧ RowT (fun i => w.heap.size ≤ i ∧ vl.ownBlock ≠ some i) w.heap.size W vl total.1 ∧ Kp (fun i => i = M) w W := by
  have e : (if d = true then ([], [], true) else Flo.run r : Flo.Out) = ([], r, d) := by
    rcases hr with h1 | h1
    · subst h1; rw [h.dead rfl]; rfl
    · cases d with
      | true => rw [h.dead rfl]; rfl
      | false => exact h1
  rw [h.tot, e, List.append_nil]
  refine ⟨⟨A, c, h.bk.below hb h.bk.lt, h.rc, h.cm, (h.at_.below hb).mono hb.size, fun a ha _ => (h.own a ha).1⟩, ?_, h.kp.trans_of (Kp.of_below (S := fun _ => False) hb) (fun i _ h => h.elim)⟩
  exact h.row.kp (Kp.of_below (S := fun _ => False) hb) (fun _ _ h => h) (fun i hp _ => ⟨fun h => h, hp⟩)
theorem RefRel.bad {Y : FX} {o : Nat} {w wr W : World} {M n c : Nat} {total : Flo.Out} {vl vl' : Value} {r : List UInt8} {l : List Flo.Item} {A : Option Addr} {err : Int} (h : RefRel Y o w M total vl wr r false l A c n) (hr : Flo.run r = ([⟨[], [], err⟩], [], true)) (hpos : 0 < r.length)
    (hb : FB Y o W M (.slice none 0 0) (.bool true)) (hrow : RowT (fun i => w.heap.size ≤ i ∧ vl'.ownBlock ≠ some i) w.heap.size W vl' (l ++ [⟨[], [], err⟩])) (hk : Kp (fun i => i = M) w W) :
    ∃ r' d' l' A' c', RefRel Y o w M total vl' W r' d' l' A' c' n := by
  have ht := h.tot
  have hlen := h.len
  refine ⟨[], true, l ++ [⟨[], [], err⟩], none, 0, hb, Nat.le_refl _, by simp [maxLen], fun i hi => (by simp at hi), fun a ha => (by cases ha), ?_, fun _ => rfl, by simp; omega, hrow, hk⟩
  rw [ht, if_neg (by simp), hr]
  simp
theorem RefRel.next {Y : FX} {o : Nat} {w wr W : World} {M n c m : Nat} {total : Flo.Out} {vl vl' : Value} {r : List UInt8} {l : List Flo.Item} {A A7 : Option Addr} {x : Flo.Item} (h : RefRel Y o w M total vl wr r false l A c n) (hr : Flo.run r = (x :: (Flo.run (r.drop m)).1, (Flo.run (r.drop m)).2)) (hm0 : 0 < m) (hmr : m ≤ r.length)
    (hA : (if c = m then A else Option.map (fun x => x.add m) A) = A7) (hb : FB Y o W M (.slice A7 (r.length - m) (c - m)) (.bool false)) (hM : M < w.heap.size) (hwr : Kp (fun i => i = M) wr W ∨ (∃ wx, Kp (fun i => i = M) wr wx ∧ wx.grownBy W vl.ownBlock))
    (hat : vl'.ownBlock = vl.ownBlock ∨ ∃ wx, Kp (fun i => i = M) wr wx ∧ vl'.ownBlock = some wx.heap.size) (hrow : RowT (fun i => w.heap.size ≤ i ∧ vl'.ownBlock ≠ some i) w.heap.size W vl' (l ++ [x])) (hk : Kp (fun i => i = M) w W) :
    ∃ r' d' l' A' c', RefRel Y o w M total vl' W r' d' l' A' c' n := by
  have ht := h.tot
  have hlen := h.len
  have hrc := h.rc
  have hcm := h.cm
  have hkr : Kp (fun i => i = M ∨ vl.ownBlock = some i) wr W := by
    rcases hwr with h1 | ⟨wx, h1, h2⟩
    · exact h1.mono (fun _ _ h => .inl h)
    · exact (h1.mono (fun _ _ h => .inl h) : Kp (fun i => i = M ∨ vl.ownBlock = some i) wr wx).grown h2 (fun k hk _ => .inr hk)
  have hblk : ∀ a, A7 = some a → ∃ a0, A = some a0 ∧ a.block = a0.block := by
    intro a ha
    rw [← hA] at ha
    by_cases e : c = m
    · rw [if_pos e] at ha; exact ⟨a, ha, rfl⟩
    · rw [if_neg e] at ha
      cases A with
      | none => cases ha
      | some y => cases ha; exact ⟨y, rfl, addr_block _ _⟩
  refine ⟨r.drop m, false, l ++ [x], A7, c - m, by rw [List.length_drop]; exact hb, by rw [List.length_drop]; omega, by omega, ?_, ?_, ?_, fun h => (by cases h), by rw [List.length_append, List.length_drop]; simp; omega, hrow, hk⟩
  · have hb7 : BytesAt wr wr.heap.size A7 (r.drop m) := by rw [← hA]; exact bytes_next h.at_ hmr hrc
    refine (BytesAt.kp_of hb7 (Nat.le_refl _) hkr (fun a ha _ _ e => ?_)).mono hkr.size
    obtain ⟨a0, ha0, hb0⟩ := hblk a ha
    have := h.own a0 ha0
    rcases e with e | e
    · omega
    · rw [hb0] at e; exact this.2 e
  · intro a ha
    obtain ⟨a0, ha0, hb0⟩ := hblk a ha
    have := h.own a0 ha0
    rw [hb0]
    refine ⟨this.1, fun e => ?_⟩
    rcases hat with h1 | ⟨wx, h1, h2⟩
    · rw [h1] at e; exact this.2 e
    · rw [h2] at e
      have e2 := Option.some.inj e
      have hz := h1.size
      rcases Nat.lt_or_ge m r.length with hlt | hge
      · obtain ⟨q, off, hA0, hq, _⟩ := h.at_.cell (i := 0) (by omega)
        rw [ha0] at hA0
        have := Option.some.inj hA0
        rw [this] at e2
        simp only at e2
        omega
      · obtain ⟨q, off, hA0, hq, _⟩ := h.at_.cell (i := 0) (by omega)
        rw [ha0] at hA0
        have := Option.some.inj hA0
        rw [this] at e2
        simp only at e2
        omega
  · rw [ht, if_neg (by simp), hr, if_neg (by simp)]
    simp
def RefInv (Y : FX) (o : Nat) (w : World) (M : Nat) (total : Flo.Out) (vl : Value) (wr : World) (n : Nat) : Prop := ∃ r d l A c, RefRel Y o w M total vl wr r d l A c n
def restLen (o : Nat) (w : World) (M : Nat) : Nat := match w.cell? ⟨M, o, none⟩ with | some (.slice _ l _) => l | _ => 0
theorem restLen_is {o : Nat} {w : World} {M l c : Nat} {A : Option Addr} (h : w.cell? ⟨M, o, none⟩ = some (.slice A l c)) : restLen o w M = l := by unfold restLen; rw [h]
set_option maxHeartbeats 4000000 in
theorem rfeed_any (Y : FX) (o : Nat) (M c : Nat) (A : Option Addr) (b : List UInt8) (s : List UInt8 × Bool) (P : Nat → Prop) (w : World) (hs : RefS Y o P w M s) (hst : Flo.St s) (hat : BytesAt w w.heap.size A b)
    (hsl : s.1.length ≤ 1000000000) (hbl : b.length ≤ 1000000000) (hc : b.length ≤ c) (hm : c ≤ maxLen) :
    Calls Tryd.prog 38 #[.pointer (some ⟨M, o, none⟩), .slice A b.length c] w fun e w' => ∃ vl, e = .returned vl ∧ RefS Y o (fun i => w.heap.size ≤ i) w' M (Flo.feed s b).2 ∧ RowT (fun i => w.heap.size ≤ i ∧ vl.ownBlock ≠ some i) w.heap.size w' vl (Flo.feed s b).1 ∧ Kp (fun i => i = M) w w' := by
  obtain ⟨x, d⟩ := s
  obtain ⟨Ar, cr, hk, hrc, hrm, hrat, hrne⟩ := hs
  simp only at hk hrc hrm hrat hrne hsl
  have LTM := hk.lt
  have c0 : w.cell? ⟨M, o, none⟩ = some (.slice Ar x.length cr) := hk.c0
  have c1 : w.cell? ⟨M, o + 1, none⟩ = some (.bool d) := hk.c1
  have fr := hk.frozen
  have HK := Lib.hid hk
  have HST := Lib.hid hst
  cases d with
  | true =>
    have hx : x = [] := hst.1 rfl
    have e : Flo.feed (x, true) b = ([], [], true) := rfl
    rw [e]
    have HX := Lib.hid hx
    clear hk hst hrat hat hrne hx e
    go_enter Tryd.func38, Tryd.ntmps38
    go_wp2_with fail
    go_ret
    have hk2 := HK.out
    rw [HX.out] at hk2
    exact ⟨_, rfl, ⟨Ar, cr, hk2, Nat.zero_le _, hrm, fun i hi => (by simp at hi), fun a _ h => absurd h (by decide)⟩, RowT.nil _ _ _, Kp.refl _ _⟩
  | false =>
    have e : Flo.feed (x, false) b = Flo.run (x ++ b) := rfl
    rw [e]
    obtain ⟨total, htot⟩ : ∃ t, t = Flo.run (x ++ b) := ⟨_, rfl⟩
    rw [← htot]
    have HT := Lib.hid htot
    have ka := (Kp.refl (fun _ => False) w).alloc (.cells #[] 5)
    have HS1 := Lib.hid (BytesAt.src (hrat.below (Joins.below_alloc1 w (.cells #[] 5))))
    have HAT := Lib.hid hat
    have HO := Lib.hid (show OwnB (w.alloc (.cells #[] 5)) w.heap.size (.slice (some ⟨w.heap.size, 0, none⟩) 0 0) [] from Bk.own (bs := []) (Bk.new _ _ _) (Nat.le_refl _) (by simp [maxLen]))
    obtain ⟨i0, hi, hz0, hz1', hz2⟩ := info_parts byte_info
    have Hi := Lib.hid hi
    have Hz := Lib.hid hz0
    have Hz1 := Lib.hid hz1'
    have Hz2 := Lib.hid hz2
    clear hk hst hrat hat hrne htot e hi hz0 hz1' hz2
    go_enter Tryd.func38, Tryd.ntmps38
    go_wp2_with (first
      | (at_builtin; refine wpList_app _ rfl (.tmp 15) (.tmp 19) _ rfl w.heap.size 5 i0 _ 1 1 Tryd.underlying22 Hi.out Hz.out Hz1.out Hz2.out rfl (by decide) (.slice (some ⟨w.heap.size, 0, none⟩) 0 0) 0 [] rfl HO.out Ar x.length cr (x.map byteV) rfl (by rw [List.length_map, Nat.mul_one]) HS1.out (oneCell_bytes _) (by unfold maxLen; omega) (by omega) (by simp) ?_; intro v4 w4 hrow4 hg4 hat4; rw [Nat.zero_add] at hrow4; have k4 : Kp (fun _ => False) w w4 := ka.grown hg4 (fun k hk hl => by simp [Value.ownBlock] at hk; omega); have hz4 := k4.size; have hsrc3 := BytesAt.src (HAT.out.below k4.below))
      | (at_builtin; refine wpList_app _ rfl (.tmp 20) (.tmp 21) _ rfl w.heap.size 5 i0 _ 1 1 Tryd.underlying22 Hi.out Hz.out Hz1.out Hz2.out rfl (by decide) v4 (x.length) _ rfl hrow4 A b.length c (b.map byteV) rfl (by rw [List.length_map, Nat.mul_one]) hsrc3 (oneCell_bytes _) (by unfold maxLen; omega) (by omega) hz4 ?_; intro v5 w5 hrow5 hg5 hat5; have k5 : Kp (fun _ => False) w w5 := k4.grown hg5 (fun k hk hl => by have := (own_lt hrow4 k hk).1; omega); obtain ⟨A5, cv5, rfl, hn5, hm5, hx5⟩ := own_form hrow5; clear hx5; have g0 := (k5.cell (p := ⟨M, o, none⟩) LTM (fun h => h)).trans c0; have g1 := (k5.cell (p := ⟨M, o + 1, none⟩) LTM (fun h => h)).trans c1; have gf := (k5.frozen (p := ⟨M, o, none⟩) LTM (fun h => h)).trans (fr o)))
    obtain ⟨W5, hW5⟩ : ∃ W5, W5 = w5.setCell ⟨M, o, none⟩ (.slice A5 (x.length + b.length) cv5) := ⟨_, rfl⟩
    rw [← hW5]
    have hxb : (x ++ b).length = x.length + b.length := by simp
    have kM : Kp (fun i => i = M) w5 W5 := by rw [hW5]; exact kp_cell1 _ _ _ _
    have HM5 : Hid (FB Y o W5 M (.slice A5 (x ++ b).length cv5) (.bool false)) := Lib.hid (by
      rw [hW5, hxb]
      exact (HK.out.kp k5 (fun h => h)).set0 _)
    have hown5 : OwnB W5 w.heap.size (.slice A5 (x.length + b.length) cv5) (x ++ b) := by
      show W5.ownsRow _ _ 1 _ _ _
      rw [hxb, List.map_append]
      exact own_kp2 (by simpa using hrow5) kM (fun i hi e => by have := (own_lt hrow5 i hi).1; omega)
    obtain ⟨A6, c6, hv6, hc6, hm6, hb6, ho6⟩ := hown5.at_
    injection hv6 with hA6 hn6 hcc6
    clear hn6
    subst hA6
    subst hcc6
    have HB5 := Lib.hid hb6
    have HO5 := Lib.hid ho6
    have HKP := Lib.hid (((k5.mono (fun _ _ h => h.elim)).trans kM : Kp (fun i => i = M) w W5))
    clear g0 g1 gf fr c0 c1 hrow4 hg4 hat4 k4 hsrc3 hrow5 hg5 hat5 k5 kM hown5 hb6 ho6 hW5 HS1 HAT HO HK ka
    obtain ⟨n, hn⟩ : ∃ n, n = (x ++ b).length := ⟨_, rfl⟩
    have hn2 : n ≤ 2000000000 := by omega
    have HN := Lib.hid hn
    clear hn hxb
    go_loopw [5] (fun vl wr => RefInv Y o w M total vl wr n) (fun _ wr => restLen o wr M)
    case atStart => exact ⟨x ++ b, false, [], A5, cv5, HM5.out, hc6, hm6, HB5.out, fun a ha => ⟨(HO5.out a ha).1, fun h => (by cases h)⟩, by rw [HT.out]; rfl, fun h => (by cases h), by rw [HN.out]; simp, RowT.nil _ _ _, HKP.out⟩
    case round =>
      clear HB5 HO5 HM5 HKP HT hm6 hm5 hc6 hn5 hc hm
      obtain ⟨r, d, l, A, c, hrel⟩ := hrel
      have HREL := Lib.hid hrel
      obtain ⟨hk, hrc, hcm, hat, hown, htot, hdd, hlen, hrow, hkp⟩ := hrel
      have c0 : wr.cell? ⟨M, o, none⟩ = some (.slice A r.length c) := hk.c0
      have c1 : wr.cell? ⟨M, o + 1, none⟩ = some (.bool d) := hk.c1
      have fr := hk.frozen
      have HK := Lib.hid hk
      have HAT := Lib.hid hat
      have LTW : M < wr.heap.size := hk.lt
      clear hk hat hown htot hdd hrow hkp
      unfold maxLen at hcm
      cases d with
      | true =>
        go_wp2_with fail
        go_ret
        obtain ⟨r1, r2, r3⟩ := HREL.out.stop (.inl rfl) LTM (Below.refl _ _)
        exact ⟨_, rfl, r1, r2, r3⟩
      | false =>
        have HG := Lib.hid (rg_any A c wr.heap.size r.length r wr rfl hrc (by unfold maxLen; omega) (by omega) HAT.out (Nat.le_refl _))
        go_wp2_with fail
        refine HG.out.mono ?_
        rintro e w2 ⟨v, rfl, hov, hb2⟩
        have hge := Flo.get_err (x := r)
        obtain ⟨⟨cmd, body, m, err⟩, hg⟩ : ∃ g, g = Frm.get r := ⟨_, rfl⟩
        rw [← hg] at hov hge ⊢
        simp only at hov hge ⊢
        have HGG := Lib.hid hg
        have HGE := Lib.hid hge
        have HOV := Lib.hid hov
        have HB2 := Lib.hid hb2
        have d0 := (hb2.cell (p := ⟨M, o, none⟩) LTW).trans c0
        have d1 := (hb2.cell (p := ⟨M, o + 1, none⟩) LTW).trans c1
        have fr2 := fun i => (hb2.frozen (p := ⟨M, i, none⟩) LTW).trans (fr i)
        clear hg hge hov hb2 c0 c1 fr HG
        rcases HGE.out with ⟨he, hrun⟩ | ⟨he, hpos, hrun⟩ | ⟨he, hpos, hrun⟩ | ⟨he4, he6, he5, hm0, hmr, hrun⟩
        · subst he
          have HR := Lib.hid hrun
          clear hrun
          go_wp2_with fail
          go_ret
          obtain ⟨r1, r2, r3⟩ := HREL.out.stop (.inr HR.out) LTM HB2.out
          exact ⟨_, rfl, r1, r2, r3⟩
        · subst he
          have HR := Lib.hid hrun
          clear hrun
          go_upto_region 16 with (fail)
          obtain ⟨W3, hW3⟩ : ∃ W3, W3 = (w2.setCell ⟨M, o + 1, none⟩ (.bool true)).setCell ⟨M, o, none⟩ (.slice none 0 0) := ⟨_, rfl⟩
          rw [← hW3]
          have k3 : FB Y o W3 M (.slice none 0 0) (.bool true) := by rw [hW3]; exact ((HK.out.below HB2.out LTW).set1 _).set0 _
          have kp3 : Kp (fun i => i = M) wr W3 := by rw [hW3]; exact (((Kp.of_below (S := fun i => i = M) HB2.out).setCell (p := ⟨M, o + 1, none⟩) (fun _ => rfl) _).setCell (p := ⟨M, o, none⟩) (fun _ => rfl) _)
          have kp4 := kp3.alloc (.cells #[.string ⟨#[]⟩, .slice none 0 0, .int .i64 6] 90)
          have k4 := k3.alloc (.cells #[.string ⟨#[]⟩, .slice none 0 0, .int .i64 6] 90)
          have row4 := HREL.out.row.kp (Q := fun i => w.heap.size ≤ i ∧ u5.ownBlock ≠ some i) kp4 (fun i hi e => by have := (HREL.out.row.lt i hi).1; omega) (fun i hp _ => ⟨fun e => by have := hp.1; omega, hp⟩)
          have hkw := HREL.out.kp.trans kp4
          have HLT4 := Lib.hid row4.lt
          obtain ⟨us, e1, e2, e3⟩ := row4
          have HE2 := Lib.hid e2
          have HE3 := Lib.hid e3
          have K4 := Lib.hid k4
          have KW := Lib.hid hkw
          have HZ := Lib.hid hkw.size
          have HSRC := Lib.hid (Src.at_ W3 [.string ⟨#[]⟩, .slice none 0 0, .int .i64 6] 90 #[.string ⟨#[]⟩, .slice none 0 0, .int .i64 6] W3.heap.size rfl rfl)
          obtain ⟨i1, hi, hz0, hz1', hz2⟩ := info_parts item_info
          have Ji := Lib.hid hi
          have Jz := Lib.hid hz0
          have Jz1 := Lib.hid hz1'
          have Jz2 := Lib.hid hz2
          clear hi hz0 hz1' hz2 e3 e2 k4 hkw kp4 kp3 k3 hW3 d0 d1 fr2
          go_wp2_with (at_builtin; refine wpList_app _ rfl (.tmp 69) (.tmp 72) _ rfl w.heap.size 90 i1 _ 3 48 Tryd.underlying87 Ji.out Jz.out Jz1.out Jz2.out rfl (by decide) u5 l.length ((l.zip us).flatMap itemPair) rfl HE2.out (some ⟨W3.heap.size, 0, none⟩) 1 1 [.string ⟨#[]⟩, .slice none 0 0, .int .i64 6] rfl rfl HSRC.out (itemCells_one ⟨[], [], 6⟩ none 0 0) (by unfold maxLen; omega) (by omega) HZ.out ?_; intro v9 w9 hrow9 hg9 hat9)
          have k9 : FB Y o w9 M _ _ := K4.out.kp (S := fun i => u5.ownBlock = some i) ((Kp.refl _ _).grown hg9 (fun k hk _ => hk)) (fun e => by have := (HLT4.out _ e).1; omega)
          go_roundw
          case rel => exact HREL.out.bad HR.out hpos k9 (rowR_push KeyP.nil e1 HE3.out hrow9 hg9 hat9) (KW.out.grown hg9 (fun k hk hl => by have := (HLT4.out _ hk).1; omega))
          case measure =>
            have c9 : w9.cell? ⟨M, o, none⟩ = some (.slice none 0 0) := k9.c0
            have c0 : wr.cell? ⟨M, o, none⟩ = some (.slice A r.length c) := HK.out.c0
            rw [restLen_is c9, restLen_is c0]
            omega
        · subst he
          have HR := Lib.hid hrun
          clear hrun
          go_upto_region 16 with (fail)
          obtain ⟨W3, hW3⟩ : ∃ W3, W3 = (w2.setCell ⟨M, o + 1, none⟩ (.bool true)).setCell ⟨M, o, none⟩ (.slice none 0 0) := ⟨_, rfl⟩
          rw [← hW3]
          have k3 : FB Y o W3 M (.slice none 0 0) (.bool true) := by rw [hW3]; exact ((HK.out.below HB2.out LTW).set1 _).set0 _
          have kp3 : Kp (fun i => i = M) wr W3 := by rw [hW3]; exact (((Kp.of_below (S := fun i => i = M) HB2.out).setCell (p := ⟨M, o + 1, none⟩) (fun _ => rfl) _).setCell (p := ⟨M, o, none⟩) (fun _ => rfl) _)
          have kp4 := kp3.alloc (.cells #[.string ⟨#[]⟩, .slice none 0 0, .int .i64 5] 90)
          have k4 := k3.alloc (.cells #[.string ⟨#[]⟩, .slice none 0 0, .int .i64 5] 90)
          have row4 := HREL.out.row.kp (Q := fun i => w.heap.size ≤ i ∧ u5.ownBlock ≠ some i) kp4 (fun i hi e => by have := (HREL.out.row.lt i hi).1; omega) (fun i hp _ => ⟨fun e => by have := hp.1; omega, hp⟩)
          have hkw := HREL.out.kp.trans kp4
          have HLT4 := Lib.hid row4.lt
          obtain ⟨us, e1, e2, e3⟩ := row4
          have HE2 := Lib.hid e2
          have HE3 := Lib.hid e3
          have K4 := Lib.hid k4
          have KW := Lib.hid hkw
          have HZ := Lib.hid hkw.size
          have HSRC := Lib.hid (Src.at_ W3 [.string ⟨#[]⟩, .slice none 0 0, .int .i64 5] 90 #[.string ⟨#[]⟩, .slice none 0 0, .int .i64 5] W3.heap.size rfl rfl)
          obtain ⟨i1, hi, hz0, hz1', hz2⟩ := info_parts item_info
          have Ji := Lib.hid hi
          have Jz := Lib.hid hz0
          have Jz1 := Lib.hid hz1'
          have Jz2 := Lib.hid hz2
          clear hi hz0 hz1' hz2 e3 e2 k4 hkw kp4 kp3 k3 hW3 d0 d1 fr2
          go_wp2_with (at_builtin; refine wpList_app _ rfl (.tmp 69) (.tmp 72) _ rfl w.heap.size 90 i1 _ 3 48 Tryd.underlying87 Ji.out Jz.out Jz1.out Jz2.out rfl (by decide) u5 l.length ((l.zip us).flatMap itemPair) rfl HE2.out (some ⟨W3.heap.size, 0, none⟩) 1 1 [.string ⟨#[]⟩, .slice none 0 0, .int .i64 5] rfl rfl HSRC.out (itemCells_one ⟨[], [], 5⟩ none 0 0) (by unfold maxLen; omega) (by omega) HZ.out ?_; intro v9 w9 hrow9 hg9 hat9)
          have k9 : FB Y o w9 M _ _ := K4.out.kp (S := fun i => u5.ownBlock = some i) ((Kp.refl _ _).grown hg9 (fun k hk _ => hk)) (fun e => by have := (HLT4.out _ e).1; omega)
          go_roundw
          case rel => exact HREL.out.bad HR.out hpos k9 (rowR_push KeyP.nil e1 HE3.out hrow9 hg9 hat9) (KW.out.grown hg9 (fun k hk hl => by have := (HLT4.out _ hk).1; omega))
          case measure =>
            have c9 : w9.cell? ⟨M, o, none⟩ = some (.slice none 0 0) := k9.c0
            have c0 : wr.cell? ⟨M, o, none⟩ = some (.slice A r.length c) := HK.out.c0
            rw [restLen_is c9, restLen_is c0]
            omega
        · have h4 : (err == 4) = false := by rw [beq_eq_false_iff_ne]; exact he4
          have h5 : (err == 5) = false := by rw [beq_eq_false_iff_ne]; exact he5
          have h6 : (err == 6) = false := by rw [beq_eq_false_iff_ne]; exact he6
          have HR := Lib.hid hrun
          obtain ⟨A2, c2, rfl, hc2, hm2, hat2, hown2⟩ := HOV.out.at_
          have HAT2 := Lib.hid hat2
          have HOW2 := Lib.hid hown2
          have hmi : (m : Int) ≤ (r.length : Int) := by omega
          have hmc : (m : Int) ≤ (c : Int) := by omega
          have hm00 : (0 : Int) ≤ (m : Int) := by omega
          clear hrun hat2 hown2
          go_upto_region 9 with (fail)
          generalize hA7 : (if c = m then A else Option.map (fun x => x.add m) A) = A7
          have HA7 := Lib.hid hA7
          obtain ⟨W3, hW3⟩ : ∃ W3, W3 = w2.setCell ⟨M, o, none⟩ (.slice A7 (r.length - m) (c - m)) := ⟨_, rfl⟩
          rw [← hW3]
          have k3 : FB Y o W3 M (.slice A7 (r.length - m) (c - m)) (.bool false) := by rw [hW3]; exact (HK.out.below HB2.out LTW).set0 _
          have kp3 : Kp (fun i => i = M) wr W3 := by rw [hW3]; exact ((Kp.of_below (S := fun i => i = M) HB2.out).setCell (p := ⟨M, o, none⟩) (fun _ => rfl) _)
          have kp23 : Kp (fun i => i = M) w2 W3 := by rw [hW3]; exact kp_cell1 _ _ _ _
          have kp4 := kp3.alloc (.cells #[.string ⟨cmd.toArray⟩, .slice A2 body.length c2, .int .i64 err] 90)
          have kp24 := kp23.alloc (.cells #[.string ⟨cmd.toArray⟩, .slice A2 body.length c2, .int .i64 err] 90)
          have k4 := k3.alloc (.cells #[.string ⟨cmd.toArray⟩, .slice A2 body.length c2, .int .i64 err] 90)
          have row4 := HREL.out.row.kp (Q := fun i => w.heap.size ≤ i ∧ u5.ownBlock ≠ some i) kp4 (fun i hi e => by have := (HREL.out.row.lt i hi).1; omega) (fun i hp _ => ⟨fun e => by have := hp.1; omega, hp⟩)
          have hkw := HREL.out.kp.trans kp4
          have hzr := HREL.out.kp.size
          have HLT4 := Lib.hid row4.lt
          have HKEY : Hid (KeyP (fun i => w.heap.size ≤ i ∧ u5.ownBlock ≠ some i) (W3.alloc (.cells #[.string ⟨cmd.toArray⟩, .slice A2 body.length c2, .int .i64 err] 90)) (.slice A2 body.length c2) body) :=
            Lib.hid ⟨A2, c2, rfl, hc2, hm2, (BytesAt.kp_of HAT2.out (Nat.le_refl _) kp24 (fun a ha _ _ e => by have := (HOW2.out a ha).1; omega)).mono kp24.size, fun a ha => ⟨⟨by have := (HOW2.out a ha).1; omega, fun e => by have := (HREL.out.row.lt _ e).2; have := (HOW2.out a ha).1; omega⟩, Nat.lt_of_lt_of_le (HOW2.out a ha).2 kp24.size⟩⟩
          obtain ⟨us, e1, e2, e3⟩ := row4
          have HE2 := Lib.hid e2
          have HE3 := Lib.hid e3
          have K4 := Lib.hid k4
          have KP4 := Lib.hid kp4
          have KW := Lib.hid hkw
          have HZ := Lib.hid hkw.size
          have HSRC := Lib.hid (Src.at_ W3 [.string ⟨cmd.toArray⟩, .slice A2 body.length c2, .int .i64 err] 90 #[.string ⟨cmd.toArray⟩, .slice A2 body.length c2, .int .i64 err] W3.heap.size rfl rfl)
          obtain ⟨i1, hi, hz0, hz1', hz2⟩ := info_parts item_info
          have Ji := Lib.hid hi
          have Jz := Lib.hid hz0
          have Jz1 := Lib.hid hz1'
          have Jz2 := Lib.hid hz2
          clear hi hz0 hz1' hz2 e3 e2 k4 hkw kp4 kp3 k3 hW3 d0 d1 fr2 hA7 kp23 kp24
          go_wp2_with (at_builtin; refine wpList_app _ rfl (.tmp 50) (.tmp 55) _ rfl w.heap.size 90 i1 _ 3 48 Tryd.underlying87 Ji.out Jz.out Jz1.out Jz2.out rfl (by decide) u5 l.length ((l.zip us).flatMap itemPair) rfl HE2.out (some ⟨W3.heap.size, 0, none⟩) 1 1 [.string ⟨cmd.toArray⟩, .slice A2 body.length c2, .int .i64 err] rfl rfl HSRC.out (itemCells_one ⟨cmd, body, err⟩ A2 body.length c2) (by unfold maxLen; omega) (by omega) HZ.out ?_; intro v9 w9 hrow9 hg9 hat9)
          have k9 : FB Y o w9 M _ _ := K4.out.kp (S := fun i => u5.ownBlock = some i) ((Kp.refl _ _).grown hg9 (fun k hk _ => hk)) (fun e => by have := (HLT4.out _ e).1; omega)
          go_roundw
          case rel =>
            exact HREL.out.next HR.out hm0 hmr HA7.out k9 LTM (.inr ⟨_, KP4.out, hg9⟩) (hat9.elim .inl (fun h => .inr ⟨_, KP4.out, h⟩)) (rowR_push HKEY.out e1 HE3.out hrow9 hg9 hat9) (KW.out.grown hg9 (fun k hk hl => by have := (HLT4.out _ hk).1; omega))
          case measure =>
            have c9 : w9.cell? ⟨M, o, none⟩ = some (.slice A7 (r.length - m) (c - m)) := k9.c0
            have c0 : wr.cell? ⟨M, o, none⟩ = some (.slice A r.length c) := HK.out.c0
            rw [restLen_is c9, restLen_is c0]
            omega
end Go.Proofs.YtpacgblddeoheaaDoor
/- The document's peer reads: rows of what came. -/
namespace Go.Proofs.YtpacgblddeoheaaDoor.P22
open Go.RowKit Go.Deep M8 T7
set_option linter.unusedVariables false
set_option linter.unusedSimpArgs false
set_option maxRecDepth 100000
set_option maxHeartbeats 4000000
attribute [local go_sem ↓] Go.wp_at_zero Go.wp_at_succ

theorem rread_no (b : Nat) (k : Int) (A : Option Addr) (n c : Nat) (w : World) (hk : k < 0 ∨ 2 ≤ k) :
    Calls Tryd.prog 18 #[.pointer (some ⟨b, 0, none⟩), .int .i64 k, .slice A n c] w fun e w' => e = .returned (.slice none 0 0) ∧ w' = w := by
  have h0 : (k != 0) = true := by rw [bne_iff_ne]; omega
  have h1 : (k != 1) = true := by rw [bne_iff_ne]; omega
  clear hk
  go_enter Tryd.func18, Tryd.ntmps18
  go_wp2_with fail
  go_ret
  exact ⟨rfl, rfl⟩
/-- what the document's Read leaves -/
def RReadPost (X : FX) (o b : Nat) (lane : Int) (w : World) (out : Flo.Out) (e : Ending) (w' : World) : Prop :=
  ∃ rv ps, e = .returned rv ∧ RefS X o (fun i => w.heap.size ≤ i) w' b out.2 ∧ RowIn 86 w' w.heap.size rv ps ∧ ps.map (·.1) = out.1.map (came lane) ∧ (∀ p ∈ ps, InPers (fun i => i < w.heap.size ∨ rv.ownBlock = some i) w' p) ∧ Kp (fun i => i = b) w w'
theorem RefS.low {X : FX} {o M : Nat} {P : Nat → Prop} {w w' : World} {s : List UInt8 × Bool} (h : RefS X o P w M s) (hb : Below w.heap.size w w') : RefS X o P w' M s := by
  obtain ⟨A, c, h1, h2, h3, h4, h5⟩ := h
  exact ⟨A, c, h1.below hb h1.lt, h2, h3, (At.below h4 hb).mono hb.size, h5⟩
theorem rbuilt_in (x : In) (ms : Array Value) (I i o : Value) (hms : ms = #[.int .i64 x.msg.kind, .int .u64 (x.msg.n : Int), .int .u32 (x.msg.code : Int), I, .int .u32 (x.msg.tx.version : Int), i, o]) : Tryd.prog.built 86 [(0, .agg ms), (1, .int .i64 x.err)] = some (inCells x I i o) := by
  subst hms
  kernel_rfl
def mCells (m : Msgs.Msg) (A : Option Addr) (c : Nat) (A1 : Option Addr) (c1 : Nat) (A2 : Option Addr) (c2 : Nat) : Array Value := #[.int .i64 m.kind, .int .u64 (m.n : Int), .int .u32 (m.code : Int), .slice A m.ids.length c, .int .u32 (m.tx.version : Int), .slice A1 m.tx.ins.length c1, .slice A2 m.tx.outs.length c2]
theorem rread_any (X : FX) (b k o B c : Nat) (hk2 : k < 2) (ho : o = 3 + k * 2) (A : Option Addr) (bs : List UInt8) (P : Nat → Prop) (s : List UInt8 × Bool) (w : World) (hs : RefS X o P w b s) (hst : Flo.St s) (hat : BytesAt w B A bs) (hB : B ≤ w.heap.size) (hsl : s.1.length ≤ 1000000) (hbl : bs.length ≤ 1000000) (hc : bs.length ≤ c) (hm : c ≤ maxLen) :
    Calls Tryd.prog 18 #[.pointer (some ⟨b, 0, none⟩), .int .i64 (k : Int), .slice A bs.length c] w (RReadPost X o b (k : Int) w (Flo.feed s bs)) := by
  subst ho
  have HFD := Lib.hid (rfeed_any X (3 + k * 2) b c A bs s P w hs hst (At.mono hat hB) (by omega) (by omega) hc hm)
  have HSM := Lib.hid (Flo.feed_small s bs)
  have HCNT := Lib.hid (show (Flo.feed s bs).1.length ≤ 1000010000 by have := Flo.feed_count s bs; omega)
  obtain ⟨out, ho⟩ : ∃ o, o = Flo.feed s bs := ⟨_, rfl⟩
  rw [← ho] at HFD HSM HCNT ⊢
  obtain ⟨m, hmm⟩ : ∃ m, m = bs.length := ⟨_, rfl⟩
  rw [← hmm] at HFD ⊢
  have i1 : (0 : Int) ≤ (k : Int) := by omega
  have i2 : (k : Int) < 2 := by omega
  have hk01 : ((k : Int) != 0) = false ∨ ((k : Int) != 0) = true ∧ ((k : Int) != 1) = false := by
    rcases (by omega : k = 0 ∨ k = 1) with rfl | rfl
    · exact .inl (by decide)
    · exact .inr ⟨by decide, by decide⟩
  have hlt : b < w.heap.size := by obtain ⟨_, _, h, _⟩ := hs; exact h.lt
  clear hs hst hat hbl hc hm ho hmm hk2 hsl
  obtain ⟨ie, hi, hz0, hz1, hz2'⟩ := info_parts rin_info
  have Ii := Lib.hid hi
  have Iz := Lib.hid hz0
  have Iz1 := Lib.hid hz1
  have Iz2 := Lib.hid hz2'
  have HZ8 := Lib.hid (show (Tryd.prog.info? 86).map (·.zero) = some (some (.agg #[.int .i64 0, .int .u64 0, .int .u32 0, .slice none 0 0, .int .u32 0, .slice none 0 0, .slice none 0 0, .int .i64 0])) by rw [hi]; exact congrArg some hz0)
  clear hi hz0 hz1 hz2'
  go_enter Tryd.func18, Tryd.ntmps18
  go_upto_region 1 with (fail)
  go_cut [17] (fun u17 wx => u17 = .bool false ∧ wx = w)
  case first =>
    rcases hk01 with h0 | ⟨h0, h1⟩
    · go_wp2_with fail
      go_meet
      exact ⟨rfl, rfl⟩
    · go_wp2_with fail
      go_meet
      exact ⟨rfl, rfl⟩
  case rest =>
  obtain ⟨rfl, hwc⟩ := hcut
  rw [hwc]
  clear hk01
  go_wp2_with fail
  refine HFD.out.mono ?_
  rintro e w2 ⟨vl, rfl, hfs, hrowT, hkp⟩
  obtain ⟨Al, cl, hvl, hlc, hlm, hat2⟩ := hrowT.at_
  subst hvl
  obtain ⟨n, hn⟩ : ∃ n, n = out.1.length := ⟨_, rfl⟩
  rw [← hn]
  have HN := Lib.hid hn
  have HFS := Lib.hid hfs
  have HKP := Lib.hid hkp
  have HAT2 := Lib.hid hat2
  have hz2 := hkp.size
  have hnm : n ≤ 1000010000 := by rw [hn]; exact HCNT.out
  clear hn hfs hkp hrowT hat2 HFD hlc hlm hwc
  go_wp2_with fail
  go_loopw [7, 26] (fun rv iv wr => ∃ (j : Nat) (ps : List IP), iv = .int .i64 (j : Int) ∧ j ≤ n ∧ Hid (RowIn 86 wr w2.heap.size rv ps) ∧ Hid (ps.map (·.1) = (out.1.take j).map (came (k : Int))) ∧ Hid (ps.length = j) ∧ Hid (∀ p ∈ ps, InPers (fun i => i < w2.heap.size ∨ rv.ownBlock = some i) wr p) ∧ Hid (Below w2.heap.size w2 wr)) (fun _ iv _ => n - (intOf iv).toNat)
  case atStart => exact ⟨0, [], rfl, Nat.zero_le _, Lib.hid (World.ownsRow_nil _ _ _ _), Lib.hid (by simp), Lib.hid rfl, Lib.hid (fun p hp => by simp at hp), Lib.hid (Below.refl _ _)⟩
  case round =>
    obtain ⟨j, ps, rfl, hj, hrow, hps, hpl, hall, hbr⟩ := hrel
    have hrow1 := hrow.out
    unfold RowIn at hrow1
    rw [hpl.out] at hrow1
    obtain ⟨Ar, cr, rfl, _⟩ := own_form hrow1
    have HROW := Lib.hid hrow1
    clear hrow hrow1
    by_cases hlt : j < n
    · have hlt1 : j < out.1.length := by rw [← HN.out]; exact hlt
      obtain ⟨bi, oi, vs, rfl, hbl, ⟨Ab, cb, rfl, hbc, hbm, hbat⟩, hcells⟩ := HAT2.out j hlt1
      have hbsm := HSM.out _ (List.getElem_mem hlt1)
      have HTK := Lib.hid (List.take_succ_eq_append_getElem hlt1)
      generalize out.1[j] = it at *
      obtain ⟨nb, hnb⟩ : ∃ nb, nb = it.body.length := ⟨_, rfl⟩
      rw [← hnb] at hbc hbsm hcells
      obtain ⟨cs, hcs⟩ : ∃ cs, cs = itemCells it (.slice Ab nb cb) := ⟨_, rfl⟩
      rw [← hcs] at hcells
      have HR := Lib.hid (show wr.rangeAt bi (oi + j * 3) cs from fun r u hu => by
        obtain ⟨h', rfl⟩ := List.getElem?_eq_some_iff.1 hu
        exact (hbr.out.cell (p := ⟨bi, _, none⟩) hbl).trans (hcells r h'))
      have HL := Lib.hid (show cs.length = 3 by rw [hcs]; rfl)
      have HONE := Lib.hid (show ∀ u ∈ cs, u.oneCell' = true by rw [hcs]; exact itemCells_one _ _ _ _)
      obtain ⟨wx, hwx⟩ : ∃ wx, wx = wr.alloc (.cells cs.toArray 90) := ⟨_, rfl⟩
      obtain ⟨XI, hX⟩ : ∃ XI, XI = wr.heap.size := ⟨_, rfl⟩
      have hbx : Below wr.heap.size wr wx := by rw [hwx]; exact Joins.below_alloc1 _ _
      have HBX := Lib.hid hbx
      have HKX := Lib.hid (show Bk wx XI 90 (itemCells it (.slice Ab nb cb)).toArray by rw [hwx, hcs, hX]; exact Bk.new _ _ _)
      have HB2X := Lib.hid (hbr.out.trans (hbx.mono hbr.out.size))
      have HG := Lib.hid (fun W (h1 : Below w2.heap.size w2 W) (h2 : w2.heap.size ≤ W.heap.size) => M8.rget_any ⟨it.cmd.toArray⟩ Ab nb cb w2.heap.size it.body W hnb.symm hbc hbm (by omega) (At.below hbat h1) h2)
      obtain ⟨rr, hr⟩ : ∃ r, r = Msgs.get it.cmd it.body := ⟨_, rfl⟩
      rw [show (⟨it.cmd.toArray⟩ : ByteArray).data.toList = it.cmd by simp, ← hr] at HG
      have HBAD := Lib.hid (show rr.2 ≠ 0 → rr.1 = Msgs.none by rw [hr]; exact Msgs.get_bad)
      obtain ⟨x, hx⟩ : ∃ x, x = came (k : Int) it := ⟨_, rfl⟩
      have HXK := Lib.hid hx
      unfold came at hx
      rw [← hr] at hx
      obtain ⟨cmd, hcmd⟩ : ∃ cmd : ByteArray, cmd = ⟨it.cmd.toArray⟩ := ⟨_, rfl⟩
      obtain ⟨er, her⟩ : ∃ er, er = it.err := ⟨_, rfl⟩
      rw [← hcmd] at HG
      rw [← her] at hx
      obtain ⟨m, e2⟩ := rr
      simp only at hx HG
      have HBAD2 := Lib.hid (show e2 ≠ 0 → m = Msgs.none from HBAD.out)
      have HXX := Lib.hid hx
      have i4 : (0 : Int) ≤ (j : Int) := by omega
      have i5 : (j : Int) < (n : Int) := by omega
      have hz3 := hbr.out.size
      have HXZ := Lib.hid (show wr.heap.size < wx.heap.size by rw [hwx]; simp)
      unfold itemCells at HKX
      rw [← hcmd, ← her] at HKX
      have hXlt : XI < wx.heap.size := HKX.out.lt
      have k0 : wx.cell? ⟨XI, 0, none⟩ = some (.string cmd) := (HKX.out.cell 0).trans rfl
      have k1 : wx.cell? ⟨XI, 1, none⟩ = some (.slice Ab nb cb) := (HKX.out.cell 1).trans rfl
      have k2 : wx.cell? ⟨XI, 2, none⟩ = some (.int .i64 er) := (HKX.out.cell 2).trans rfl
      obtain ⟨ez, hz0, hz1, hz2'⟩ : ∃ zs : Array Value, (Tryd.prog.info? 90).map (·.zero) = some (some (.agg zs)) ∧ zs.size = 3 ∧ True := ⟨#[.string ⟨#[]⟩, .slice none 0 0, .int .i64 0], by kernel_rfl, rfl, trivial⟩
      have HZI := Lib.hid hz0
      have HZIL := Lib.hid hz1
      clear hcells hbat hcs hnb hbx hcmd her hz0 hz1 hz2' hx hr HBAD
      go_upto_region 7 with (refine wpList_elem rfl rfl rfl 90 (.tmp 28) (.tmp 9) (.tmp 29) rfl rfl rfl bi (oi + j * 3) (by rfl) cs _ HR.out Tryd.underlying90 rfl (by rw [HL.out]; kernel_rfl) ez HZI.out (by rw [HZIL.out, HL.out]) HONE.out (by rfl) (by rfl) ?_)
      rw [← hwx, ← hX]
      clear hwx hX
      obtain ⟨g, hg⟩ : ∃ g, g = wx.heap.size := ⟨_, rfl⟩
      go_simp
      go_cut [10, 11] from 27 to 59 (fun u10 u11 wc => u10 = .pointer (some ⟨g, 0, none⟩) ∧ u11 = .int .i64 er ∧ wc = (wx.alloc (.cells #[.int .i64 0, .int .u64 0, .int .u32 0, .slice none 0 0, .int .u32 0, .slice none 0 0, .slice none 0 0] 51)).drew)
      case first =>
        go_region
        all_goals go_wp2_with fail
        all_goals go_meet
        all_goals exact ⟨by rw [hg], rfl, rfl⟩
      case rest =>
      obtain ⟨rfl, rfl, hwc⟩ := hcut
      generalize wc = wq at *
      have hbm : Below wx.heap.size wx wq := by rw [hwc]; exact (Joins.below_alloc1 wx _).drew
      have HM := Lib.hid (show Bk wq g 51 #[.int .i64 0, .int .u64 0, .int .u32 0, .slice none 0 0, .int .u32 0, .slice none 0 0, .slice none 0 0] by rw [hwc, hg]; exact (Bk.new _ _ _).drew)
      have HBM := Lib.hid hbm
      have hzc : g < wq.heap.size := HM.out.lt
      have HBC := Lib.hid (HBX.out.trans (hbm.mono HBX.out.size))
      have HKC := Lib.hid (HKX.out.below hbm hXlt)
      have hXl : XI < wq.heap.size := HKC.out.lt
      have hXg : XI < g := by rw [hg]; exact hXlt
      have hwg : wr.heap.size ≤ g := by rw [hg]; exact HBX.out.size
      have hc0 := (hbm.cell (p := ⟨XI, 0, none⟩) hXlt).trans k0
      have hc1 := (hbm.cell (p := ⟨XI, 1, none⟩) hXlt).trans k1
      clear k0 k1 k2 hwc hbm hg HKX HBX HB2X hXlt HXZ
      go_upto_if 34 with (fail)
      go_cut [11] from 27 to 59 (fun u11 wy => ∃ (m1 : Msgs.Msg) (e1 : Int) (A3 : Option Addr) (c3 : Nat) (A4 : Option Addr) (c4 : Nat) (A5 : Option Addr) (c5 : Nat), u11 = .int .i64 e1 ∧ Hid (Bk wy g 51 (mCells m1 A3 c3 A4 c4 A5 c5)) ∧ Hid (MsgNew wq.heap.size wy m1 A3 c3 A4 c4 A5 c5) ∧ Hid (Kp (fun i => i = g) wq wy) ∧ Hid (x = if e1 ≠ 0 then ⟨Msgs.none, e1⟩ else if laneOf m1.kind ≠ (k : Int) then ⟨Msgs.none, 21⟩ else ⟨m1, 0⟩) ∧ Hid (e1 ≠ 0 → m1 = Msgs.none))
      case first =>
        by_cases he : er = 0
        · have HXE := Lib.hid (show x = if e2 ≠ 0 then ⟨Msgs.none, e2⟩ else if laneOf m.kind ≠ (k : Int) then ⟨Msgs.none, 21⟩ else ⟨m, 0⟩ by rw [HXX.out, if_neg (by simp [he])])
          have he0 : (er == 0) = true := by rw [beq_iff_eq]; exact he
          go_wp2_with fail
          refine (HG.out wq (hbr.out.trans (HBC.out.mono hbr.out.size)) (by omega)).mono ?_
          rintro e w4 ⟨Ai, ci, A1, c1, A2, c2, rfl, hnew, hb4⟩
          obtain ⟨mm, hmm⟩ : ∃ mm, mm = mCells m Ai ci A1 c1 A2 c2 := ⟨_, rfl⟩
          have HMM := Lib.hid hmm
          have HML := Lib.hid (show mm.size = 7 by rw [hmm]; rfl)
          have HMO := Lib.hid (show mm.all (·.oneCell') = true by rw [hmm]; simp [mCells, Value.oneCell'])
          rw [show M8.msgV m Ai ci A1 c1 A2 c2 = .agg mm by rw [hmm]; rfl]
          have HM4 := Lib.hid (HM.out.below hb4 hzc)
          have HNEW := Lib.hid hnew
          have HB4 := Lib.hid hb4
          clear hmm hnew hb4
          go_wp2_with (refine wpList_store_row rfl 51 (.tmp 10) (.tmp 41) rfl g mm (by rfl) (by rfl) 51 #[.int .i64 0, .int .u64 0, .int .u32 0, .slice none 0 0, .int .u32 0, .slice none 0 0, .slice none 0 0] HM4.out (by rw [HML.out]; exact size_msg) (by rw [HML.out]; rfl) HMO.out ?_)
          go_meet
          have hks : Kp (fun i => i = g) w4 (w4.setRow g mm) := Kp.setRow7 (S := fun i => i = g) (Kp.refl _ _) (fun _ => rfl) mm
          have hbk : Bk (w4.setRow g mm) g 51 mm := setRow_heap _ _ _ _ _ _ HM4.out
          refine ⟨m, e2, Ai, ci, A1, c1, A2, c2, rfl, Lib.hid (by rw [← HMM.out]; exact hbk), Lib.hid (fun wz hz => HNEW.out wz ((hks.mono (T := fun i => i < wq.heap.size) (fun _ _ h => by omega)).trans_of hz (fun _ _ h => h))), Lib.hid ((Kp.of_below HB4.out).trans_of hks (fun _ _ h => h)), HXE, HBAD2⟩
        · have he0 : (er == 0) = false := by rw [beq_eq_false_iff_ne]; exact he
          go_wp2_with fail
          go_meet
          exact ⟨Msgs.none, er, none, 0, none, 0, none, 0, rfl, HM, Lib.hid (none_new _ _), Lib.hid (Kp.refl _ _), Lib.hid (by rw [HXX.out, if_pos he, if_pos he]), Lib.hid (fun _ => rfl)⟩
      case rest =>
      obtain ⟨m1, e1, A3, c3, A4, c4, A5, c5, rfl, HMY, HNY, HKY, HXY, HBY⟩ := hcut
      clear HM HXX HBAD2 HG
      generalize wc = wy at *
      obtain ⟨ln, hln⟩ : ∃ ln, ln = laneOf m1.kind := ⟨_, rfl⟩
      have HLN := Lib.hid (fun W => (M8.rlane_any m1.kind W))
      rw [show (if m1.kind = 9 then (1 : Int) else 0) = ln by rw [hln]; rfl] at HLN
      rw [← hln] at HXY
      have m0 : wy.cell? ⟨g, 0, none⟩ = some (.int .i64 m1.kind) := (HMY.out.cell 0).trans rfl
      have hgy : g < wy.heap.size := HMY.out.lt
      clear hln
      go_upto_region 10 with (fail)
      go_cut [51] from 27 to 59 (fun u51 wz => u51 = .bool (decide (e1 = 0) && (ln != (k : Int))) ∧ wz = wy)
      case first =>
        by_cases he : e1 = 0
        · have he0 : (e1 == 0) = true := by rw [beq_iff_eq]; exact he
          have HE := Lib.hid he
          clear he
          go_wp2_with fail
          refine (HLN.out wy).mono ?_
          rintro e w4 ⟨rfl, rfl⟩
          go_wp2_with fail
          go_meet
          exact ⟨by simp [HE.out], rfl⟩
        · have he0 : (e1 == 0) = false := by rw [beq_eq_false_iff_ne]; exact he
          go_wp2_with fail
          go_meet
          exact ⟨by simp [he], rfl⟩
      case rest =>
      obtain ⟨rfl, hwc⟩ := hcut
      rw [hwc]
      clear hwc HLN
      obtain ⟨qb, hqb⟩ : ∃ qb, qb = (decide (e1 = 0) && (ln != (k : Int))) := ⟨_, rfl⟩
      rw [← hqb]
      go_upto_if 51 with (fail)
      go_cut [11] from 27 to 59 (fun u11 wz => ∃ (m3 : Msgs.Msg) (e3 : Int) (A3 : Option Addr) (c3 : Nat) (A4 : Option Addr) (c4 : Nat) (A5 : Option Addr) (c5 : Nat), u11 = .int .i64 e3 ∧ Hid (Bk wz g 51 (mCells m3 A3 c3 A4 c4 A5 c5)) ∧ Hid (MsgNew wq.heap.size wz m3 A3 c3 A4 c4 A5 c5) ∧ Hid (Kp (fun i => i = g) wq wz) ∧ Hid (x = ⟨m3, e3⟩))
      case first =>
        cases qb with
        | true =>
          have HMO := Lib.hid (show (#[.int .i64 0, .int .u64 0, .int .u32 0, .slice none 0 0, .int .u32 0, .slice none 0 0, .slice none 0 0] : Array Value).all (·.oneCell') = true by simp [Value.oneCell'])
          have hq1 := hqb.symm
          simp only [Bool.and_eq_true, decide_eq_true_eq, bne_iff_ne] at hq1
          clear hqb
          go_wp2_with (refine wpList_store_row rfl 51 (.tmp 10) (.tmp 52) rfl g #[.int .i64 0, .int .u64 0, .int .u32 0, .slice none 0 0, .int .u32 0, .slice none 0 0, .slice none 0 0] (by rfl) (by rfl) 51 (mCells m1 A3 c3 A4 c4 A5 c5) HMY.out (by exact size_msg) rfl HMO.out ?_)
          go_meet
          have hks : Kp (fun i => i = g) wy (wy.setRow g #[.int .i64 0, .int .u64 0, .int .u32 0, .slice none 0 0, .int .u32 0, .slice none 0 0, .slice none 0 0]) := Kp.setRow7 (S := fun i => i = g) (Kp.refl _ _) (fun _ => rfl) _
          have hbk : Bk (wy.setRow g #[.int .i64 0, .int .u64 0, .int .u32 0, .slice none 0 0, .int .u32 0, .slice none 0 0, .slice none 0 0]) g 51 #[.int .i64 0, .int .u64 0, .int .u32 0, .slice none 0 0, .int .u32 0, .slice none 0 0, .slice none 0 0] := setRow_heap _ _ _ _ _ _ HMY.out
          exact ⟨Msgs.none, 21, none, 0, none, 0, none, 0, rfl, Lib.hid hbk, Lib.hid (none_new _ _), Lib.hid (HKY.out.trans hks), Lib.hid (by rw [HXY.out, if_neg (by simp [hq1.1]), if_pos hq1.2])⟩
        | false =>
          have hq1 := hqb.symm
          simp only [Bool.and_eq_false_iff, decide_eq_false_iff_not, bne_eq_false_iff_eq] at hq1
          clear hqb
          go_wp2_with fail
          go_meet
          refine ⟨m1, e1, A3, c3, A4, c4, A5, c5, rfl, HMY, HNY, HKY, Lib.hid ?_⟩
          rw [HXY.out]
          by_cases he : e1 = 0
          · rcases hq1 with h | h
            · exact absurd he h
            · rw [if_neg (by simp [he]), if_neg (by simp [h]), he]
          · rw [if_pos he, HBY.out he]
      case rest =>
      clear HMY HNY HKY HXY HBY m0 hgy hqb
      obtain ⟨m3, e3, A3, c3, A4, c4, A5, c5, rfl, HMZ, HNZ, HKZ, HXZ⟩ := hcut
      generalize wc = wz at *
      have hxz := HXZ.out
      subst hxz
      obtain ⟨mz, hmz⟩ : ∃ mz, mz = mCells m3 A3 c3 A4 c4 A5 c5 := ⟨_, rfl⟩
      obtain ⟨p, hp⟩ : ∃ p : IP, p = (⟨m3, e3⟩, .slice A3 m3.ids.length c3, .slice A4 m3.tx.ins.length c4, .slice A5 m3.tx.outs.length c5) := ⟨_, rfl⟩
      obtain ⟨cx, hcx⟩ : ∃ cx, cx = inCells ⟨m3, e3⟩ (.slice A3 m3.ids.length c3) (.slice A4 m3.tx.ins.length c4) (.slice A5 m3.tx.outs.length c5) := ⟨_, rfl⟩
      have HBU := Lib.hid (show Tryd.prog.built 86 [(0, .agg mz), (1, .int .i64 e3)] = some cx by rw [hcx, hmz]; exact rbuilt_in ⟨m3, e3⟩ _ _ _ _ rfl)
      have HMZ2 := Lib.hid (show Bk wz g 51 mz by rw [hmz]; exact HMZ.out)
      have HMZL := Lib.hid (show mz.size = 7 by rw [hmz]; rfl)
      have HCP := Lib.hid (show cx.toList = ipCells p by rw [hcx, hp]; rfl)
      have HCS := Lib.hid (show cx.size = 8 by rw [hcx]; rfl)
      have HCO := Lib.hid (show ∀ u ∈ cx.toList, u.oneCell' = true by
        rw [hcx]
        intro u hu
        simp only [inCells, List.mem_cons, List.not_mem_nil, or_false] at hu
        rcases hu with rfl | rfl | rfl | rfl | rfl | rfl | rfl | rfl <;> rfl)
      have HNEW := Lib.hid (show InPers (fun i => i < wq.heap.size) wz p from ⟨A3, c3, A4, c4, A5, c5, by rw [hp], by rw [hp], by rw [hp], fun W hW => by rw [hp]; exact HNZ.out W hW⟩)
      have HP1 := Lib.hid (show p.1 = came (k : Int) it by rw [hp]; exact HXK.out)
      have HBZ := Lib.hid (show Below wr.heap.size wr wz from Kp.from_elder HBC.out HKZ.out (fun i hi h => by omega))
      have HOWN := Lib.hid (show wz.ownsRow w2.heap.size 86 8 (.slice Ar j cr) j (ps.flatMap ipCells) from own_below HROW.out HBZ.out)
      have hq1 := HBC.out.size
      have hq2 := HKZ.out.size
      clear hmz hp hcx HMZ HNZ HKZ HXZ HXK
      go_wp2_with (first
        | (refine wpList_load_row rfl 51 (.tmp 10) rfl g (by rfl) 51 mz (0, 0) _ HMZ2.out Tryd.underlying51 rfl (by rw [HMZL.out]; exact size_msg) ?_)
        | (refine wpList_built rfl 86 #[(0, .tmp 54), (1, .tmp 55)] rfl cx (by simpa [Act.eval, Act.put] using HBU.out) ?_)
        | (refine wpList_buildOne rfl 28 86 (.tmp 56) rfl cx (by rfl) Tryd.underlying28 (by rw [HCS.out]; exact size_rin) #[.int .i64 0, .int .u64 0, .int .u32 0, .slice none 0 0, .int .u32 0, .slice none 0 0, .slice none 0 0, .int .i64 0] HZ8.out (by rw [HCS.out]; omega) (by rw [HCS.out]; omega) ?_)
        | (at_builtin; go_must (refine wpList_app _ rfl (.tmp 53) (.tmp 57) _ rfl w2.heap.size 86 ie _ 8 112 Tryd.underlying28 Ii.out Iz.out Iz1.out Iz2.out rfl (by decide) (.slice Ar j cr) j (ps.flatMap ipCells) (by rfl) (own_below HOWN.out (Joins.below_alloc1 _ _)) (some ⟨wz.heap.size, 0, none⟩) 1 1 cx.toList (by rfl) (by rw [Array.length_toList, HCS.out]) (by simpa using Src.new wz cx.toList 86) HCO.out (by unfold maxLen; omega) (by omega) (by simp; omega) ?_); intro v6 w6 hrow6 hg6 hat6))
      have hkg : Kp (fun i => (Value.slice Ar j cr).ownBlock = some i) wz w6 := ((Kp.refl _ _).alloc _).trans ((Kp.refl _ _).grown hg6 (fun i h _ => h))
      have hlow := own_lt HROW.out
      have hrow6' := hrow6
      obtain ⟨A6, c6, rfl, _⟩ := own_form hrow6'
      have HR6 := Lib.hid hrow6
      have HLT6 := Lib.hid (show ∀ i, (Value.slice A6 (j + 1) c6).ownBlock = some i → (Value.slice Ar j cr).ownBlock = some i ∨ wz.heap.size ≤ i from fun i hi => by
        rcases hat6 with h | h
        · exact .inl (h ▸ hi)
        · rw [h] at hi; injection hi with hi; simp at hi; exact .inr (by omega))
      have HKG := Lib.hid hkg
      have HLOW := Lib.hid hlow
      clear hrow6 hrow6' hg6 hat6 hkg hlow
      go_roundw
      case rel =>
        refine ⟨j + 1, ps ++ [p], by go_num, by omega, Lib.hid ?_, Lib.hid ?_, Lib.hid (by rw [List.length_append, hpl.out]; rfl), Lib.hid (fun q hq => ?_), Lib.hid ?_⟩
        · show w6.ownsRow _ _ _ _ _ _
          rw [List.length_append, hpl.out, List.flatMap_append, List.flatMap_singleton, ← HCP.out]
          exact HR6.out
        · rw [List.map_append, hps.out, HTK.out, List.map_append, List.map_singleton, List.map_singleton, HP1.out]
        · rcases List.mem_append.1 hq with hq | hq
          · refine (((hall.out q hq).step (T' := fun i => i < w2.heap.size ∨ (Value.slice Ar j cr).ownBlock = some i) (S := fun _ => False) (Kp.of_below HBZ.out) (fun _ _ h => h.elim) (fun _ _ h => h))).step HKG.out (fun i _ h => .inr h) (fun i hi h => ?_)
            rcases h with h | h
            · exact .inl h
            · rcases HLT6.out i h with h' | h'
              · exact .inr h'
              · omega
          · rw [List.mem_singleton.1 hq]
            refine HNEW.out.step HKG.out (fun i _ h => by have := (HLOW.out i h).2; omega) (fun i hi h => ?_)
            rcases h with h | h
            · omega
            · rcases HLT6.out i h with h' | h'
              · have := (HLOW.out i h').2; omega
              · omega
        · exact Kp.from_elder (hbr.out.trans (HBZ.out.mono hbr.out.size)) HKG.out (fun i hi h => by have := (HLOW.out i h).1; omega)
      case measure => simp [intOf]; omega
    · obtain rfl : j = n := by omega
      have ht : out.1.take j = out.1 := List.take_of_length_le (by rw [← HN.out]; exact Nat.le_refl _)
      rw [ht] at hps
      clear ht
      go_wp2_with fail
      go_ret
      refine ⟨_, ps, rfl, RefS.low HFS.out hbr.out, ?_, hps.out, fun q hq => ?_, HKP.out.trans_of (Kp.of_below (S := fun _ => False) hbr.out) (fun _ _ h => h.elim)⟩
      · have := HROW.out
        show wr.ownsRow _ _ _ _ _ _
        rw [hpl.out]
        exact own_mono this hz2
      · refine (hall.out q hq).step (S := fun _ => False) (Kp.refl _ _) (fun _ _ h => h.elim) (fun i hi h => ?_)
        rcases h with h | h
        · exact .inl (by omega)
        · exact .inr h

end Go.Proofs.YtpacgblddeoheaaDoor.P22
