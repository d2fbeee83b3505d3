/- The law's send and hears. -/
import Derived.Test.YtpacgblddeoheaaDoorPrRows
namespace Go.Proofs.YtpacgblddeoheaaDoor.P22
open Go.RowKit Go.Deep M8 T7
set_option linter.unusedVariables false
set_option linter.unusedSimpArgs false
set_option maxRecDepth 100000
set_option maxHeartbeats 4000000
attribute [local go_sem ↓] Go.wp_at_zero Go.wp_at_succ

abbrev T3 := Nat × Nat × Nat
def mOf (x : T3) : Msgs.Msg := ⟨(x.1 : Int), x.2.1, x.2.2, [], Txs.none⟩
/-- a message's frame, what it is read as -/
def fr (x : T3) : List UInt8 := Frm.put (Msgs.put (mOf x)).1 (Msgs.put (mOf x)).2.1
def itOf (x : T3) : Flo.Item := ⟨(Msgs.put (mOf x)).1, (Msgs.put (mOf x)).2.1, 0⟩
/-- what may be sent on the general lane -/
structure Sends (x : T3) : Prop where
  put : (Msgs.put (mOf x)).2.2 = 0
  lane : x.1 ≠ 9
  k : x.1 ≤ 100
  n : x.2.1 < 18446744073709551616
  c : x.2.2 < 4294967296
theorem Sends.eq {x : T3} (h : Sends x) : Msgs.put (mOf x) = ((Msgs.put (mOf x)).1, (Msgs.put (mOf x)).2.1, 0) := by
  have := h.put
  rw [← this]
theorem mOf_at (w : World) (B : Nat) {x : T3} (h : Sends x) : MsgAt w B (mOf x) none 0 none 0 none 0 :=
  ⟨by show _ ≤ (x.1 : Int); omega, by have := h.k; show (x.1 : Int) ≤ _; omega, h.n, h.c, Nat.le_refl _, by simp [maxLen], fun i hi => by simp [mOf] at hi, none_tx w B⟩
theorem Sends.len {x : T3} (h : Sends x) : (Msgs.put (mOf x)).2.1.length ≤ 2000 := put_len8 (mOf_at default 0 h).ok h.eq
theorem Sends.frl {x : T3} (h : Sends x) : (fr x).length ≤ 2024 := by
  unfold fr
  rw [Frm.put_len (put_named h.eq)]
  have := h.len
  omega
theorem feed_all : ∀ (l : List T3), (∀ x ∈ l, Sends x) → Flo.run (l.flatMap fr) = (l.map itOf, ([], false))
  | [], _ => by simp; exact Flo.run_short (by simp)
  | x :: l, h => by
    have hx := h x (by simp)
    rw [List.flatMap_cons, List.map_cons]
    unfold fr at *
    rw [Flo.run_put (put_named hx.eq) (Nat.le_trans hx.len (by decide))]
    have ih := feed_all l (fun y hy => h y (by simp [hy]))
    unfold fr at ih
    rw [ih]
    rfl
theorem came_of {x : T3} (h : Sends x) : came 0 (itOf x) = ⟨mOf x, 0⟩ := by
  unfold came itOf
  have := Msgs.get_put (mOf_at default 0 h).ok h.eq
  rw [this]
  have hl : laneOf (mOf x).kind = 0 := by
    unfold laneOf
    have := h.lane
    rw [if_neg (by show ¬ (x.1 : Int) = 9; omega)]
  rw [hl]
  simp
theorem Outs.range {w : World} {base : Nat} {A : Option Addr} {n c : Nat} {l : List T3} (h : Outs w base (.slice A n c) l) : n = l.length ∧ n ≤ c ∧ c ≤ maxLen ∧ ∀ j (hj : j < l.length), ∃ b, A = some ⟨b, 0, none⟩ ∧ b < w.heap.size ∧ w.rangeAt b (j * 7) (msgCells l[j].1 l[j].2.1 l[j].2.2).toList := by
  obtain ⟨A', c', hv, h1, h2, _, hc⟩ := own_form (show w.ownsRow _ _ _ _ _ _ from h)
  injection hv with q1 q2 q3
  subst q1 q3 q2
  refine ⟨rfl, h1, h2, fun j hj => ?_⟩
  have hcell : ∀ r (hr : r < 7), ∃ b, A = some ⟨b, 0, none⟩ ∧ b < w.heap.size ∧ w.cell? ⟨b, j * 7 + r, none⟩ = some ((msgCells l[j].1 l[j].2.1 l[j].2.2).toList[r]'(by simpa [msgCells] using hr)) := fun r hr => by
    obtain ⟨b, e1, _, e2, e3⟩ := hc (j * 7 + r) ((msgCells l[j].1 l[j].2.1 l[j].2.2).toList[r]'(by simpa [msgCells] using hr)) (by
      rw [flatMap_index l (fun x _ => (rfl : (msgCells x.1 x.2.1 x.2.2).toList.length = 7)) j hj r hr, List.getElem?_eq_getElem])
    exact ⟨b, e1, e2, e3⟩
  obtain ⟨b, hA, hb, _⟩ := hcell 0 (by omega)
  refine ⟨b, hA, hb, fun r u hu => ?_⟩
  obtain ⟨hr, rfl⟩ := List.getElem?_eq_some_iff.1 hu
  obtain ⟨b', hA', _, hcr⟩ := hcell r (by simpa [msgCells] using hr)
  rw [hA] at hA'
  injection hA' with hA'
  injection hA' with hA' _
  subst hA'
  exact hcr
theorem zero_msg22 : (Tryd.prog.info? 51).map (·.zero) = some (some (.agg (msgCells 0 0 0))) := by kernel_rfl
theorem fl_len {l : List T3} (h : ∀ x ∈ l, Sends x) : (l.flatMap fr).length ≤ l.length * 2024 := by
  induction l with
  | nil => simp
  | cons x l ih =>
    have h1 := (h x (by simp)).frl
    have h2 := ih (fun y hy => h y (by simp [hy]))
    rw [List.flatMap_cons, List.length_append, List.length_cons]
    omega
theorem send_any (l : List T3) (hS : ∀ x ∈ l, Sends x) (hfew : l.length ≤ 100) (base : Nat) (A : Option Addr) (n c : Nat) (w : World) (h : Outs w base (.slice A n c) l) (hlay : Laid w) :
    Calls Tryd.prog 25 #[.slice A n c] w fun e w' => ∃ v, e = .returned (.tuple #[v, .bool true]) ∧ OwnB w' w.heap.size v (l.flatMap fr) ∧ Below w.heap.size w w' := by
  obtain ⟨hn, hnc, hcm, hrng⟩ := h.range
  have HN := Lib.hid hn
  have HRNG := Lib.hid hrng
  have HS := Lib.hid hS
  have HLY := Lib.hid hlay
  have HFEW := Lib.hid hfew
  have hn100 : n ≤ 100 := by rw [hn]; exact hfew
  obtain ⟨i0, hi, hz0, hz1', hz2⟩ := info_parts byte_info
  have Hi := Lib.hid hi
  have Hz := Lib.hid hz0
  have Hz1 := Lib.hid hz1'
  have Hz2 := Lib.hid hz2
  obtain ⟨zm, hzm⟩ : ∃ zm, zm = msgCells 0 0 0 := ⟨_, rfl⟩
  have HZM := Lib.hid (show (Tryd.prog.info? 51).map (·.zero) = some (some (.agg zm)) by rw [hzm]; exact zero_msg22)
  have HZL := Lib.hid (show zm.size = 7 by rw [hzm]; rfl)
  clear h hn hrng hS hlay hi hz0 hz1' hz2 hzm hfew
  go_enter Tryd.func25, Tryd.ntmps25
  go_wp2_with fail
  go_loopw [4, 11] (fun bv iv wr => ∃ j : Nat, iv = .int .i64 (j : Int) ∧ j ≤ n ∧ Hid (OwnB wr w.heap.size bv ((l.take j).flatMap fr)) ∧ Hid (Below w.heap.size w wr)) (fun _ iv _ => n - (intOf iv).toNat)
  case atStart => exact ⟨0, rfl, Nat.zero_le _, Lib.hid (own_nil _ _), Lib.hid (Below.refl _ _)⟩
  case round =>
    obtain ⟨j, rfl, hj, hrow, hbr⟩ := hrel
    by_cases hlt : j < n
    · have hlt1 : j < l.length := by rw [← HN.out]; exact hlt
      obtain ⟨bi, rfl, hbl, hcells⟩ := HRNG.out j hlt1
      have hsx := HS.out _ (List.getElem_mem hlt1)
      have HTK := Lib.hid (List.take_succ_eq_append_getElem hlt1)
      have hblen : ((l.take j).flatMap fr).length ≤ 202400 := by
        have h1 := fl_len (l := l.take j) (fun y hy => HS.out y (List.mem_of_mem_take hy))
        rw [List.length_take] at h1
        have := HFEW.out
        omega
      generalize l[j] = x at *
      obtain ⟨k, mn, mc⟩ := x
      simp only at hcells
      obtain ⟨cs, hcs⟩ : ∃ cs, cs = (msgCells k mn mc).toList := ⟨_, rfl⟩
      rw [← hcs] at hcells
      have HR := Lib.hid (show wr.rangeAt bi (j * 7) cs from fun r u hu => (hbr.out.cell (p := ⟨bi, _, none⟩) hbl).trans (hcells r u hu))
      have HL := Lib.hid (show cs.length = 7 by rw [hcs]; rfl)
      have HONE := Lib.hid (show ∀ u ∈ cs, u.oneCell' = true by rw [hcs]; simp [msgCells, Value.oneCell'])
      obtain ⟨wx, hwx⟩ : ∃ wx, wx = wr.alloc (.cells cs.toArray 51) := ⟨_, rfl⟩
      obtain ⟨X, hX⟩ : ∃ X, X = wr.heap.size := ⟨_, rfl⟩
      have HBX := Lib.hid (show Below wr.heap.size wr wx by rw [hwx]; exact Joins.below_alloc1 _ _)
      have HBWX := Lib.hid (hbr.out.trans (HBX.out.mono hbr.out.size))
      have HKX := Lib.hid (show Bk wx X 51 (msgCells k mn mc) by rw [hwx, hX, hcs, Array.toArray_toList]; exact Bk.new _ _ _)
      have HXL := Lib.hid (show X < wx.heap.size from HKX.out.lt)
      obtain ⟨k0, k1, k2, k3, k4, k5, k6⟩ := M8.msg_cells (w := wx) (g := X) (T := 51) (k := (k : Int)) (n := mn) (code := mc) (v := 0) (I := .slice none 0 0) (i := .slice none 0 0) (o := .slice none 0 0) HKX.out
      have HFR := Lib.hid (mframe_any8 (mOf (k, mn, mc)) none none none 0 0 0 wx.heap.size wx (mOf_at wx _ hsx) (Nat.le_refl _) _ _ 0 (fr (k, mn, mc)) hsx.eq (fun _ => rfl) (fun h => absurd rfl h) (HLY.out.below HBWX.out))
      have HROW := Lib.hid (own_below hrow.out HBX.out)
      have HFL := Lib.hid hsx.frl
      have HLN := Lib.hid (show (if ((mOf (k, mn, mc)).kind = 9) then (1 : Int) else 0) = 0 by
        have := hsx.lane
        rw [if_neg (by show ¬ (k : Int) = 9; simp only at this; omega)])
      have i4 : (0 : Int) ≤ (j : Int) := by omega
      have i5 : (j : Int) < (n : Int) := by omega
      have hz3 := hbr.out.size
      have hzx := HBX.out.size
      unfold M8.msgV mOf at HFR
      simp only [List.length_nil] at HFR
      clear hcells hcs
      go_upto_region 5 with (refine wpList_elem rfl rfl rfl 51 (.tmp 13) (.tmp 6) (.tmp 14) rfl rfl rfl bi (j * 7) (by rfl) cs _ HR.out Tryd.underlying51 rfl (by rw [HL.out]; exact msg_size) zm HZM.out (by rw [HZL.out, HL.out]) HONE.out (by rfl) (by rfl) ?_)
      rw [← hwx, ← hX]
      clear hwx hX
      go_wp2_with fail
      refine HFR.out.mono ?_
      rintro e w5 ⟨v5, rfl, ho5, hb5⟩
      obtain ⟨A5, c5, hv5, _, _, hat5, _⟩ := ho5.at_
      have c0' : w5.cell? ⟨X, 0, none⟩ = _ := (hb5.cell (p := ⟨X, 0, none⟩) HXL.out).trans k0
      have HB5 := Lib.hid (HBX.out.trans (hb5.mono HBX.out.size))
      have HSRC := Lib.hid (BytesAt.src hat5)
      have HROW5 := Lib.hid (own_below HROW.out hb5)
      have hz5 := hb5.size
      obtain ⟨lf, hlf⟩ : ∃ lf, lf = (fr (k, mn, mc)).length := ⟨_, rfl⟩
      have HLF := Lib.hid hlf
      have hlf2 : lf ≤ 2024 := by rw [hlf]; exact HFL.out
      rw [← hlf] at hv5
      obtain ⟨m, hm⟩ : ∃ m, m = ((l.take j).flatMap fr).length := ⟨_, rfl⟩
      rw [← hm] at hblen
      have HM := Lib.hid hm
      clear hb5 ho5 hat5 k0 k1 k2 k3 k4 k5 k6 HFR HROW hlf hm
      subst hv5
      go_wp2_with fail
      refine (M8.lane_any (k : Int) w5).mono ?_
      rintro e w6 ⟨rfl, rfl⟩
      have hln := HLN.out
      unfold mOf at hln
      simp only at hln
      rw [hln]
      clear hln
      go_wp2_with (at_builtin; go_must (refine wpList_app _ rfl (.tmp 28) (.tmp 29) _ rfl w.heap.size 5 i0 _ 1 1 Tryd.underlying22 Hi.out Hz.out Hz1.out Hz2.out rfl (by decide) _ m (((l.take j).flatMap fr).map byteV) (by rfl) (by rw [HM.out]; exact HROW5.out) A5 lf c5 ((fr (k, mn, mc)).map byteV) (by rfl) (by rw [List.length_map, HLF.out, Nat.mul_one]) HSRC.out (oneCell_bytes _) (by unfold maxLen; omega) (by omega) (by omega) ?_); intro v6 w6 hrow6 hg6 hat6)
      have HB6 := Lib.hid (show Below w.heap.size w w6 from Kp.from_elder (hbr.out.trans (HB5.out.mono hbr.out.size)) (S := fun i => _ = some i) ((Kp.refl _ _).grown hg6 (fun k hk _ => hk)) (fun i hi e => by have := (own_lt HROW5.out i e).1; omega))
      have HR6 := Lib.hid hrow6
      clear hrow6 hg6 hat6
      go_roundw
      case rel =>
        refine ⟨j + 1, by go_num, by omega, Lib.hid ?_, HB6⟩
        show w6.ownsRow _ _ _ _ _ _
        rw [HTK.out, List.flatMap_append, List.flatMap_singleton, List.length_append, List.map_append, ← HLF.out, ← HM.out]
        exact HR6.out
      case measure => simp [intOf]; omega
    · obtain rfl : j = n := by omega
      have ht : l.take j = l := List.take_of_length_le (by rw [← HN.out]; exact Nat.le_refl _)
      rw [ht] at hrow
      clear ht
      go_wp2_with fail
      go_ret2
      exact ⟨_, rfl, hrow.out, hbr.out⟩
def hearAll : PeerD → List T3 → List T3 × PeerD × Bool
  | d, [] => ([], d, true)
  | d, x :: l => ((heard d x.1 x.2.1 x.2.2).1 ++ (hearAll (heard d x.1 x.2.1 x.2.2).2.2.2 l).1, (hearAll (heard d x.1 x.2.1 x.2.2).2.2.2 l).2.1, decide ((heard d x.1 x.2.1 x.2.2).2.1 = 0) && ((heard d x.1 x.2.1 x.2.2).2.2.1 && (hearAll (heard d x.1 x.2.1 x.2.2).2.2.2 l).2.2))
theorem hearAll_append : ∀ (l m : List T3) (d : PeerD), hearAll d (l ++ m) = ((hearAll d l).1 ++ (hearAll (hearAll d l).2.1 m).1, (hearAll (hearAll d l).2.1 m).2.1, (hearAll d l).2.2 && (hearAll (hearAll d l).2.1 m).2.2)
  | [], m, d => by simp [hearAll]
  | x :: l, m, d => by
    have ih := hearAll_append l m (heard d x.1 x.2.1 x.2.2).2.2.2
    simp only [List.cons_append, hearAll]
    rw [ih]
    simp [List.append_assoc, Bool.and_assoc]
theorem hearAll_at {d : PeerD} {l : List T3} (h : (hearAll d l).2.2 = true) {i : Nat} (hi : i < l.length) :
    (heard (hearAll d (l.take i)).2.1 l[i].1 l[i].2.1 l[i].2.2).2.1 = 0 ∧ (heard (hearAll d (l.take i)).2.1 l[i].1 l[i].2.1 l[i].2.2).2.2.1 = true ∧
      (hearAll d (l.take (i + 1))).1 = (hearAll d (l.take i)).1 ++ (heard (hearAll d (l.take i)).2.1 l[i].1 l[i].2.1 l[i].2.2).1 ∧ (hearAll d (l.take (i + 1))).2.1 = (heard (hearAll d (l.take i)).2.1 l[i].1 l[i].2.1 l[i].2.2).2.2.2 := by
  have e : l = l.take i ++ (l[i] :: l.drop (i + 1)) := by rw [← List.drop_eq_getElem_cons hi, List.take_append_drop]
  have h1 := h
  rw [e, hearAll_append] at h1
  simp only [hearAll, Bool.and_eq_true, decide_eq_true_eq] at h1
  obtain ⟨_, h2, h3, _⟩ := h1
  rw [List.take_succ_eq_append_getElem hi, hearAll_append]
  exact ⟨h2, h3, by simp [hearAll], by simp [hearAll]⟩
theorem heard_step {d : PeerD} (h : d.step ≤ 2) (k n c : Int) : (heard d k n c).2.2.2.step ≤ 2 := by
  unfold heard
  repeat' split
  all_goals first | exact h | (show 1 ≤ 2; omega) | (show 2 ≤ 2; omega)
theorem hearAll_step : ∀ (l : List T3) (d : PeerD), d.step ≤ 2 → (hearAll d l).2.1.step ≤ 2
  | [], d, h => h
  | x :: l, d, h => hearAll_step l _ (heard_step h _ _ _)
theorem map_split {α β : Type} {f : α → β} {l : List α} {q r : List β} (h : q ++ r = l.map f) : q = (l.take q.length).map f ∧ r = (l.drop q.length).map f := by
  constructor
  · have := congrArg (List.take q.length) h
    rw [List.take_left', ← List.map_take] at this
    · exact this
    · rfl
  · have := congrArg (List.drop q.length) h
    rw [List.drop_left', ← List.map_drop] at this
    · exact this
    · rfl
theorem FlowS.nil_of {w : World} {F base : Nat} {v : Value} (h : FlowS w F base v ([], false)) : v = .slice none 0 0 := by
  rcases h with ⟨a, _⟩ | ⟨_, b, _⟩ | ⟨_, hd, hv, body, b, _, _, e⟩
  · cases a
  · exact b
  · have h1 := e.1
    have h2 := congrArg List.length b
    simp only [List.length_nil, List.length_append] at h2
    omega
theorem FlowS.any {w : World} {F base : Nat} (h : FlowS w F base (.slice none 0 0) ([], false)) (b2 : Nat) : FlowS w F b2 (.slice none 0 0) ([], false) := by
  rcases h with ⟨a, _⟩ | ⟨a, b, hd, n, h1, h2, e⟩ | ⟨_, hd, hv, body, b, _, _, e⟩
  · cases a
  · exact .inr (.inl ⟨a, b, hd, n, h1, h2, ⟨e.1, e.2.1, World.ownsRow_nil _ _ _ _⟩⟩)
  · have h1 := e.1
    have h2 := congrArg List.length b
    simp only [List.length_nil, List.length_append] at h2
    omega
theorem outs_one (l : List T3) : ∀ u ∈ l.flatMap (fun m => (msgCells m.1 m.2.1 m.2.2).toList), u.oneCell' = true := by
  intro u hu
  obtain ⟨x, _, hx⟩ := List.mem_flatMap.1 hu
  simp only [msgCells, List.mem_cons, List.not_mem_nil, or_false] at hx
  rcases hx with rfl | rfl | rfl | rfl | rfl | rfl | rfl <;> rfl
theorem outs_len (l : List T3) : (l.flatMap (fun m => (msgCells m.1 m.2.1 m.2.2).toList)).length = l.length * 7 := by
  induction l with
  | nil => rfl
  | cons p l ih => rw [List.flatMap_cons, List.length_append, ih, List.length_cons]; simp [msgCells]; omega
theorem Outs.src {w : World} {base : Nat} {A : Option Addr} {n c : Nat} {l : List T3} (h : Outs w base (.slice A n c) l) : Src w A (l.flatMap (fun m => (msgCells m.1 m.2.1 m.2.2).toList)) := by
  obtain ⟨A', cap, hv, _, _, _, hc⟩ := own_form (show w.ownsRow _ _ _ _ _ _ from h)
  injection hv with hv _ _
  subst hv
  intro j u hu
  obtain ⟨b, hA, _, _, hcj⟩ := hc j u hu
  refine ⟨_, hA, ?_⟩
  have e : (⟨b, 0, none⟩ : Addr).add j = ⟨b, j, none⟩ := by unfold Addr.add; split <;> simp_all
  rw [e]
  exact hcj
/-- what hears leaves -/
def HearsPost (X : Ptrs) (w : World) (b F : Nat) (d : PeerD) (l : List T3) (e : Ending) (w' : World) : Prop :=
  ∃ v, e = .returned (.tuple #[v, .bool true]) ∧ Outs w' w.heap.size v (hearAll d l).1 ∧ IsPeer X w' b (hearAll d l).2.1 ∧ FlowS w' F w.heap.size (.slice none 0 0) ([], false) ∧ Kp (fun i => i = b ∨ i = F) w w'
structure HR (X : Ptrs) (w : World) (b F : Nat) (d : PeerD) (l : List T3) (A : Option Addr) (c : Nat) (r : List UInt8) (i : Nat) (s : List UInt8 × Bool) (vF : Value) (ov : Value) (wr : World) : Prop where
  il : i ≤ l.length
  rc : r.length ≤ c
  cm : c ≤ maxLen
  at_ : BytesAt w w.heap.size A r
  ne : ∀ a, A = some a → b < a.block ∧ F < a.block
  feed : Flo.feed s r = ((l.drop i).map itOf, ([], false))
  fs : FlowS wr F w.heap.size vF s
  peer : IsPeer X wr b (hearAll d (l.take i)).2.1
  out : Outs wr w.heap.size ov (hearAll d (l.take i)).1
  apart : ∀ x, ov.ownBlock = some x → vF.ownBlock ≠ some x
  kp : Kp (fun i => i = b ∨ i = F) w wr
  few : (hearAll d (l.take i)).1.length ≤ i * 3
theorem heard_few (d : PeerD) (k n c : Int) : (heard d k n c).1.length ≤ 3 := by
  unfold heard
  repeat' split
  all_goals simp
theorem take_len22 {r : List UInt8} {k : Nat} (h : k ≤ r.length) : (r.take k).length = k := by rw [List.length_take]; omega
theorem ne_next22 {A : Option Addr} {c k b F : Nat} (h : ∀ a, A = some a → b < a.block ∧ F < a.block) : ∀ a, (if c = k then A else Option.map (fun x => x.add k) A) = some a → b < a.block ∧ F < a.block := by
  intro a ha
  split at ha
  · exact h a ha
  · cases A with
    | none => cases ha
    | some x =>
      simp only [Option.map_some, Option.some.injEq] at ha
      rw [← ha]
      have := h x rfl
      unfold Addr.add
      split <;> simpa using this
theorem hears_any (X : Ptrs) (b F G : Nat) (q : Addr) (hX : X = (some ⟨F, 0, none⟩, some ⟨G, 0, none⟩, q)) (d : PeerD) (l : List T3) (hS : ∀ x ∈ l, Sends x) (hfew : l.length ≤ 100) (hok : (hearAll d l).2.2 = true) (hst : d.step ≤ 2) (A0 : Option Addr) (n0 c0 : Nat) (pc : Nat) (hpc : 1 ≤ pc) (hpc2 : pc ≤ 256) (w : World)
    (hp : IsPeer X w b d) (hF : FlowS w F w.heap.size (.slice none 0 0) ([], false)) (hbF : b ≠ F) (hat : BytesAt w w.heap.size A0 (l.flatMap fr)) (hn0 : (l.flatMap fr).length = n0) (hc0 : n0 ≤ c0) (hm0 : c0 ≤ maxLen) (hA : ∀ a, A0 = some a → b < a.block ∧ F < a.block)
    (hlay : Laid w) (hl1 : 1 < w.heap.size ∧ 1 ≠ F ∧ 1 ≠ b) (hl2 : 0 < w.heap.size ∧ 0 ≠ F ∧ 0 ≠ b) :
    Calls Tryd.prog 26 #[.pointer (some ⟨b, 0, none⟩), .slice A0 n0 c0, .int .i64 (pc : Int)] w (HearsPost X w b F d l) := by
  have HS := Lib.hid hS
  have HOK := Lib.hid hok
  have HLY := Lib.hid hlay
  have HXX := Lib.hid hX
  have hFl : F < w.heap.size := hF.lt.1
  have hbl : b < w.heap.size := hp.lt
  have HR0 := Lib.hid (show HR X w b F d l A0 c0 (l.flatMap fr) 0 ([], false) (.slice none 0 0) (.slice none 0 0) w from
    ⟨Nat.zero_le _, by omega, hm0, hat, hA, by unfold Flo.feed; simp only [Bool.false_eq_true, if_false, List.nil_append, List.drop_zero]; exact feed_all l hS, hF, by rw [List.take_zero]; exact hp, by rw [List.take_zero]; exact World.ownsRow_nil _ _ _ _, fun x hx => (by cases hx), Kp.refl _ _, by simp [hearAll]⟩)
  have HLEN := Lib.hid (fl_len hS)
  obtain ⟨im, hi, hz0, hz1', hz2⟩ := info_parts msg_info
  have Mi := Lib.hid hi
  have Mz := Lib.hid hz0
  have Mz1 := Lib.hid hz1'
  have Mz2 := Lib.hid hz2
  obtain ⟨zi, hzi⟩ : ∃ zi : Array Value, zi = #[.int .i64 0, .int .u64 0, .int .u32 0, .slice none 0 0, .int .u32 0, .slice none 0 0, .slice none 0 0, .int .i64 0] := ⟨_, rfl⟩
  have HZI := Lib.hid (show (Tryd.prog.info? 76).map (·.zero) = some (some (.agg zi)) by rw [hzi]; kernel_rfl)
  have HZIL := Lib.hid (show zi.size = 8 by rw [hzi]; rfl)
  have hp1 : (1 : Int) ≤ (pc : Int) := by omega
  have hp2 : (pc : Int) ≤ 256 := by omega
  have HN0 := Lib.hid hn0
  clear hS hok hlay hX hp hF hat hA hi hz0 hz1' hz2 hzi hn0
  go_enter Tryd.func26, Tryd.ntmps26
  go_wp2_with fail
  go_loopw [1, 8] (fun bv ov wr => ∃ (A : Option Addr) (c : Nat) (r : List UInt8) (i : Nat) (s : List UInt8 × Bool) (vF : Value), bv = .slice A r.length c ∧ r.length ≤ n0 ∧ Hid (HR X w b F d l A c r i s vF ov wr)) (fun bv _ _ => (match bv with | .slice _ n _ => n | _ => 0))
  case atStart => exact ⟨A0, c0, _, 0, _, _, by rw [HN0.out], by rw [HN0.out]; exact Nat.le_refl _, HR0⟩
  case round =>
    clear HR0
    obtain ⟨A, c, r, i, s, vF, rfl, hrn, HRR⟩ := hrel
    obtain ⟨m, hm⟩ : ∃ m, m = r.length := ⟨_, rfl⟩
    rw [← hm] at hrn ⊢
    have HM := Lib.hid hm
    have hmc : m ≤ c := by rw [hm]; exact HRR.out.rc
    clear hm
    by_cases h0 : 0 < m
    · have hm0' : (0 : Int) < (m : Int) := by omega
      obtain ⟨k, hk⟩ : ∃ k, k = min pc m := ⟨_, rfl⟩
      have hki : (if m < pc then (m : Int) else (pc : Int)) = (k : Int) := by split <;> omega
      have hkl : k ≤ r.length := by rw [← HM.out]; omega
      have hk0 : (0 : Int) ≤ (k : Int) := by omega
      have hk1 : (k : Int) ≤ (m : Int) := by omega
      have hk2 : (k : Int) ≤ (c : Int) := by omega
      have hk3 : 0 < k ∧ k ≤ 256 ∧ k ≤ m := by omega
      clear hk
      go_upto_region 4 with (fail)
      clear hki
      have hX := HXX.out
      have hptr : wr.cell? ⟨b, 4, none⟩ = some (.pointer (some ⟨F, 0, none⟩)) := by
        obtain ⟨f, g, q', ⟨e1, _, _⟩, hb⟩ := HRR.out.peer
        rw [hX] at e1
        simp only at e1
        subst e1
        exact (hb.cell 4).trans rfl
      have hkr := HRR.out.kp
      have hwr := hkr.size
      have hatr : BytesAt wr w.heap.size A (r.take k) := (BytesAt.take (BytesAt.kp_of HRR.out.at_ (Nat.le_refl _) hkr (fun a ha _ _ e => by have := HRR.out.ne a ha; omega)) k)
      have hlw : Laid wr := HLY.out.kp_of hkr (fun e => by omega) (fun e => by omega)
      have htl : (r.take k).length = k := take_len22 hkl
      have HRD := Lib.hid (show Calls Tryd.prog 10 #[.pointer (some ⟨b, 0, none⟩), .int .i64 0, .slice A k c] wr (ReadPost wr F w.heap.size vF 0 (Flo.feed s (r.take k))) by
        have h := read_any b 0 F w.heap.size c (by omega) A (r.take k) vF s wr hptr hFl hwr HRR.out.fs hatr (fun a ha _ => by have := HRR.out.ne a ha; omega) hlw (by omega) (by omega) (by omega) (by omega) (by rw [htl]; omega) (by rw [htl]; omega) HRR.out.cm
        rw [htl] at h
        exact h)
      have hfa := Flo.feed_append HRR.out.fs.st (r.take k) (r.drop k)
      rw [List.take_append_drop, HRR.out.feed] at hfa
      obtain ⟨out, hout⟩ : ∃ out, out = Flo.feed s (r.take k) := ⟨_, rfl⟩
      rw [← hout] at HRD hfa
      injection hfa with hfa1 hfa2
      obtain ⟨hq1, hq2⟩ := map_split hfa1.symm
      have HQ1 := Lib.hid hq1
      have HNX := Lib.hid (show Flo.feed out.2 (r.drop k) = ((l.drop (i + out.1.length)).map itOf, ([], false)) by
        rw [← List.drop_drop] at *
        exact Prod.ext hq2 hfa2.symm)
      have HQL := Lib.hid (show i + out.1.length ≤ l.length by
        have h1 := congrArg List.length hfa1
        rw [List.length_map, List.length_drop, List.length_append] at h1
        have := HRR.out.il
        omega)
      have HVO := Lib.hid (HRR.out.fs.lt.2)
      have HOV := Lib.hid (own_lt (show wr.ownsRow _ _ _ _ _ _ from HRR.out.out))
      clear hptr hatr hlw htl hfa1 hfa2 hq1 hq2 hout hX
      go_wp2_with fail
      refine HRD.out.mono ?_
      rintro e w8 ⟨rv, v', ps, rfl, g1, g2, g3, g4, g5, g6, g7⟩
      obtain ⟨n2, hn2⟩ : ∃ n2, n2 = ps.length := ⟨_, rfl⟩
      have hn2o : n2 = out.1.length := by
        have h1 := congrArg List.length g4
        rw [List.length_map, List.length_map] at h1
        omega
      obtain ⟨Ar, cr, hrv, _⟩ := own_form (show w8.ownsRow _ _ _ _ _ _ from g3)
      subst hrv
      have HN2 := Lib.hid hn2
      have HN2O := Lib.hid hn2o
      have hn100 : n2 ≤ 100 := by have := HQL.out; omega
      have HG1 := Lib.hid g1
      have HG2 := Lib.hid g2
      have HG3 := Lib.hid g3
      have HG5 := Lib.hid g5
      have HG6 := Lib.hid g6
      have HG7 := Lib.hid g7
      have HMSG := Lib.hid (show ∀ j (hj : j < ps.length) (hi : i + j < l.length), ps[j].1 = ⟨mOf l[i + j], 0⟩ from fun j hj hi => by
        have h := congrArg (fun z => z[j]?) g4
        rw [HQ1.out] at h
        simp only [List.getElem?_map, List.getElem?_eq_getElem hj, Option.map_some] at h
        rw [List.getElem?_take_of_lt (by omega), List.getElem?_drop, List.getElem?_eq_getElem hi, Option.map_some, Option.map_some] at h
        injection h with h
        rw [h]
        exact came_of (HS.out _ (List.getElem_mem hi)))
      have hs8 := g7.size
      have hbw8 : b < w8.heap.size := by omega
      have HP8 := Lib.hid (show IsPeer X w8 b _ from HRR.out.peer.kp g7 (fun e => e.elim (fun e => by have e' : b = F := e; omega) (fun e => by have := (HVO.out _ e).1; have e' : w.heap.size ≤ b := this; omega)))
      have HO8 := Lib.hid (show Outs w8 w.heap.size u8 _ from own_kp2 HRR.out.out g7 (fun x hx e => e.elim (fun e => by have := (HOV.out x hx).1; omega) (fun e => HRR.out.apart x hx e)))
      obtain ⟨ov0, hov0⟩ : ∃ ov0, ov0 = u8 := ⟨_, rfl⟩
      have HOV0 := Lib.hid (show ∀ x, ov0.ownBlock = some x → w.heap.size ≤ x ∧ x < wr.heap.size by rw [hov0]; exact HOV.out)
      have HAP0 := Lib.hid (show ∀ x, ov0.ownBlock = some x → vF.ownBlock ≠ some x by rw [hov0]; exact HRR.out.apart)
      have HOE0 := Lib.hid hov0
      have hwrs : wr.heap.size ≤ w8.heap.size := hs8
      obtain ⟨s0, hs0⟩ : ∃ s0, s0 = wr.heap.size := ⟨_, rfl⟩
      rw [← hs0] at HOV0 HG2 HG3 HG5 hwrs hwr
      rw [← hn2]
      clear hov0 hs0 g1 g2 g3 g4 g5 g6 g7 hn2 hn2o HRD
      go_wp2_with fail
      go_loopw [8, 28] (fun o2 jv wr => ∃ j : Nat, jv = .int .i64 (j : Int) ∧ j ≤ n2 ∧ Hid (IsPeer X wr b (hearAll d (l.take (i + j))).2.1) ∧ Hid (Outs wr w.heap.size o2 (hearAll d (l.take (i + j))).1) ∧ Hid (∀ x, o2.ownBlock = some x → ov0.ownBlock = some x ∨ w8.heap.size ≤ x) ∧ Hid (Kp (fun x => x = b ∨ ov0.ownBlock = some x) w8 wr) ∧ Hid ((hearAll d (l.take (i + j))).1.length ≤ (i + j) * 3)) (fun _ jv _ => n2 - (intOf jv).toNat)
      case atStart => exact ⟨0, rfl, Nat.zero_le _, by rw [Nat.add_zero]; exact HP8, by rw [Nat.add_zero]; exact HO8, Lib.hid (fun x hx => .inl (by rw [HOE0.out]; exact hx)), Lib.hid (Kp.refl _ _), by rw [Nat.add_zero]; exact Lib.hid HRR.out.few⟩
      case round =>
        obtain ⟨j, rfl, hj, hpr, hou, hoo, hk8, hfw⟩ := hrel
        by_cases hlt : j < n2
        · have hil : i + j < l.length := by have := HQL.out; have := HN2O.out; omega
          have hjp : j < ps.length := by have := HN2.out; omega
          have hm1 := HMSG.out j hjp hil
          obtain ⟨h2a, h2b, h2c, h2d⟩ := hearAll_at HOK.out hil
          have hsx := HS.out _ (List.getElem_mem hil)
          obtain ⟨_, _, _, hrng⟩ := RowIn.range HG3.out
          obtain ⟨br, rfl, hbr, hcells⟩ := hrng j hjp
          have hip := HG5.out _ (List.getElem_mem hjp)
          have hstj := hearAll_step (l.take (i + j)) d hst
          have hfj := heard_few (hearAll d (l.take (i + j))).2.1 (l[i + j].1 : Int) (l[i + j].2.1 : Int) (l[i + j].2.2 : Int)
          generalize ps[j] = p at *
          generalize l[i + j] = x at *
          obtain ⟨k3, mn, mc⟩ := x
          obtain ⟨y, I, i', o'⟩ := p
          simp only at hm1
          subst hm1
          obtain ⟨B3, d3, B4, d4, B5, d5, r1, r2, r3, _⟩ := hip
          simp only [mOf, Txs.none, List.length_nil] at r1 r2 r3
          subst r1 r2 r3
          have hrnb : br ≠ b ∧ ov0.ownBlock ≠ some br := by
            have h1 := (own_lt (show w8.ownsRow _ _ _ _ _ _ from HG3.out) br rfl).1
            exact ⟨by omega, fun e => by have := (HOV0.out _ e).2; omega⟩
          obtain ⟨cs, hcs⟩ : ∃ cs, cs = (inCells ⟨mOf (k3, mn, mc), 0⟩ (.slice B3 0 d3) (.slice B4 0 d4) (.slice B5 0 d5)).toList := ⟨_, rfl⟩
          have hcells' : w8.rangeAt br (j * 8) cs := by rw [hcs]; exact hcells
          have HR8 := Lib.hid (show wr.rangeAt br (j * 8) cs from fun r u hu => (hk8.out.cell (p := ⟨br, _, none⟩) hbr (fun e => e.elim hrnb.1 hrnb.2)).trans (hcells' r u hu))
          have HL := Lib.hid (show cs.length = 8 by rw [hcs]; rfl)
          have HONE := Lib.hid (show ∀ u ∈ cs, u.oneCell' = true by rw [hcs]; intro u hu; simp only [inCells, List.mem_cons, List.not_mem_nil, or_false] at hu; rcases hu with rfl | rfl | rfl | rfl | rfl | rfl | rfl | rfl <;> rfl)
          obtain ⟨wx, hwx⟩ : ∃ wx, wx = wr.alloc (.cells cs.toArray 76) := ⟨_, rfl⟩
          obtain ⟨Y, hY⟩ : ∃ Y, Y = wr.heap.size := ⟨_, rfl⟩
          have HBX := Lib.hid (show Below wr.heap.size wr wx by rw [hwx]; exact Joins.below_alloc1 _ _)
          have HKX := Lib.hid (show Bk wx Y 76 (inCells ⟨mOf (k3, mn, mc), 0⟩ (.slice B3 0 d3) (.slice B4 0 d4) (.slice B5 0 d5)) by rw [hwx, hY, hcs, Array.toArray_toList]; exact Bk.new _ _ _)
          have y0 : wx.cell? ⟨Y, 0, none⟩ = some (.int .i64 (k3 : Int)) := (HKX.out.cell 0).trans rfl
          have y1 : wx.cell? ⟨Y, 1, none⟩ = some (.int .u64 (mn : Int)) := (HKX.out.cell 1).trans rfl
          have y2 : wx.cell? ⟨Y, 2, none⟩ = some (.int .u32 (mc : Int)) := (HKX.out.cell 2).trans rfl
          have y3 : wx.cell? ⟨Y, 3, none⟩ = some (.slice B3 0 d3) := (HKX.out.cell 3).trans rfl
          have y4 : wx.cell? ⟨Y, 4, none⟩ = some (.int .u32 0) := (HKX.out.cell 4).trans rfl
          have y5 : wx.cell? ⟨Y, 5, none⟩ = some (.slice B4 0 d4) := (HKX.out.cell 5).trans rfl
          have y6 : wx.cell? ⟨Y, 6, none⟩ = some (.slice B5 0 d5) := (HKX.out.cell 6).trans rfl
          have y7 : wx.cell? ⟨Y, 7, none⟩ = some (.int .i64 0) := (HKX.out.cell 7).trans rfl
          have hYx : Y < wx.heap.size := HKX.out.lt
          have hYb : b < Y := by rw [hY]; exact hpr.out.lt
          have HPX := Lib.hid (hpr.out.kp (Kp.of_below (S := fun _ => False) HBX.out) (fun h => h))
          have HH := Lib.hid (hear_any b _ (k3 : Int) (mn : Int) (mc : Int) ⟨B3, 0, d3, 0, B4, 0, d4, B5, 0, d5⟩ wx HPX.out (by omega) hstj)
          have i4 : (0 : Int) ≤ (j : Int) := by omega
          have i5 : (j : Int) < (n2 : Int) := by omega
          unfold P22.msgV at HH
          simp only at HH h2a h2b h2c h2d hfj
          have HNA := Lib.hid h2a
          have HNB := Lib.hid h2b
          have HNC := Lib.hid h2c
          have HND := Lib.hid h2d
          have HFJ := Lib.hid hfj
          clear hcells hcells' hcs HKX h2a h2b h2c h2d hfj hrng HPX hrnb hsx hstj
          go_upto_region 7 with (refine wpList_elem rfl rfl rfl 76 (.tmp 30) (.tmp 11) (.tmp 31) rfl rfl rfl br (j * 8) (by rfl) cs _ HR8.out Tryd.underlying76 rfl (by rw [HL.out]; exact size_in) zi HZI.out (by rw [HZIL.out, HL.out]) HONE.out (by rfl) (by rfl) ?_)
          rw [← hwx, ← hY]
          clear hwx hY
          go_wp2_with fail
          refine HH.out.mono ?_
          rintro e w9 ⟨vo, rfl, ho9, hp9, hk9⟩
          have HPE := Lib.hid (show IsPeer X w9 b (hearAll d (l.take (i + j + 1))).2.1 by rw [HND.out]; exact hp9)
          obtain ⟨Ao, co, hvo, _⟩ := own_form (show w9.ownsRow _ _ _ _ _ _ from ho9)
          obtain ⟨no, hno⟩ : ∃ no, no = (heard (hearAll d (l.take (i + j))).2.1 (k3 : Int) (mn : Int) (mc : Int)).1.length := ⟨_, rfl⟩
          rw [← hno] at hvo
          subst hvo
          have HSRC := Lib.hid (Outs.src (show Outs w9 wx.heap.size (.slice Ao no co) _ from by rw [hno] at *; exact ho9))
          have HOLEN := Lib.hid (show ((heard (hearAll d (l.take (i + j))).2.1 (k3 : Int) (mn : Int) (mc : Int)).1.flatMap (fun m => (msgCells m.1 m.2.1 m.2.2).toList)).length = no * 7 by rw [hno]; exact outs_len _)
          have hno3 : no ≤ 3 := by rw [hno]; exact HFJ.out
          have HOU9 := Lib.hid (show Outs w9 w.heap.size u8 _ from own_kp2 (own_below (show wr.ownsRow _ _ _ _ _ _ from hou.out) HBX.out) hk9 (fun x hx e => by
            have e' : x = b := e
            have h1 := (own_lt (show wr.ownsRow _ _ _ _ _ _ from hou.out) x hx).1
            omega))
          have HNO := Lib.hid hno
          have HK9 := Lib.hid (show Kp (fun x => x = b) wr w9 from (Kp.of_below HBX.out).trans hk9)
          have y7' : w9.cell? ⟨Y, 7, none⟩ = some (.int .i64 0) := (hk9.cell (p := ⟨Y, 7, none⟩) hYx (by show ¬ Y = b; omega)).trans y7
          have hz9 := hk9.size
          have hzr := HBX.out.size
          have hz8 := hk8.out.size
          obtain ⟨m9, hm9⟩ : ∃ m9, m9 = (hearAll d (l.take (i + j))).1.length := ⟨_, rfl⟩
          have hm93 : m9 ≤ 600 := by rw [hm9]; have := hfw.out; have := HQL.out; have := HN2O.out; omega
          have HM9 := Lib.hid hm9
          have HU9 := Lib.hid (show w9.ownsRow w.heap.size 51 7 u8 m9 ((hearAll d (l.take (i + j))).1.flatMap (fun m => (msgCells m.1 m.2.1 m.2.2).toList)) by rw [hm9]; exact HOU9.out)
          have hlow9 : w.heap.size ≤ w9.heap.size := by omega
          rw [HNA.out, HNB.out]
          clear y0 y1 y2 y3 y4 y5 y6 y7 ho9 hp9 hk9 HH hno hm9
          go_wp2_with (at_builtin; go_must (refine wpList_app _ rfl (.tmp 51) (.tmp 52) _ rfl w.heap.size 51 im _ 7 104 Tryd.underlying42 Mi.out Mz.out Mz1.out Mz2.out rfl (by decide) u8 m9 _ (by rfl) HU9.out Ao no co _ (by rfl) HOLEN.out HSRC.out (outs_one _) (by unfold maxLen; omega) (by omega) hlow9 ?_); intro v10 w10 hrow10 hg10 hat10)
          have hkg : Kp (fun x => u8.ownBlock = some x) w9 w10 := (Kp.refl _ _).grown hg10 (fun k hk _ => hk)
          have hult := own_lt HU9.out
          have HP10 := Lib.hid (HPE.out.kp hkg (fun e => by have := (hult _ e).1; have e' : w.heap.size ≤ b := this; omega))
          have HK10 := Lib.hid (show Kp (fun x => x = b ∨ ov0.ownBlock = some x) w8 w10 from (hk8.out.trans_of HK9.out (fun x _ e => .inl e)).trans_of hkg (fun x hx e => by
            rcases hoo.out x e with h | h
            · exact .inr h
            · omega))
          have HOO10 := Lib.hid (show ∀ x, v10.ownBlock = some x → ov0.ownBlock = some x ∨ w8.heap.size ≤ x from fun x hx => by
            rcases hat10 with h | h
            · exact hoo.out x (h ▸ hx)
            · rw [h] at hx; injection hx with hx; exact .inr (by omega))
          have HR10 := Lib.hid hrow10
          clear hrow10 hg10 hat10 hkg hult
          go_roundw
          case rel =>
            refine ⟨j + 1, by go_num, by omega, HP10, Lib.hid ?_, HOO10, HK10, Lib.hid ?_⟩
            · show w10.ownsRow _ _ _ _ _ _
              rw [← Nat.add_assoc, HNC.out, List.length_append, List.flatMap_append, ← HM9.out, ← HNO.out]
              exact HR10.out
            · rw [← Nat.add_assoc, HNC.out, List.length_append, ← HM9.out, ← HNO.out]
              have := hfw.out
              rw [← HM9.out] at this
              omega
          case measure => simp [intOf]; omega
        · obtain rfl : j = n2 := by omega
          have hbF2 : ¬ (F = b) := fun e => hbF e.symm
          have HRK := Lib.hid (show ∀ x, v'.ownBlock = some x → ¬ (x = b ∨ ov0.ownBlock = some x) from fun x hx e => by
            have h1 := HG1.out.lt.2 x hx
            rcases e with e | e
            · omega
            · have h2 := HOV0.out x e
              rcases HG2.out x hx with h | h
              · exact HAP0.out x e h
              · omega)
          have HFS := Lib.hid (HG1.out.kp hk8.out (fun e => e.elim hbF2 (fun e => by have := (HOV0.out _ e).1; omega)) HRK.out)
          have HKP := Lib.hid ((HRR.out.kp.trans_of HG7.out (fun x _ e => e.elim .inr (fun e => by have := (HVO.out x e).1; omega))).trans_of hk8.out (fun x _ e => e.elim .inl (fun e => by have := (HOV0.out x e).1; omega)))
          have HAPX := Lib.hid (show ∀ x, _ = some x → v'.ownBlock ≠ some x from fun x hx e => by
            rcases hoo.out x hx with h | h
            · exact HRK.out x e (.inr h)
            · have := (HG1.out.lt.2 x e).2; omega)
          have hdl : (r.drop k).length = m - k := by rw [List.length_drop, ← HM.out]
          have HNEXT := Lib.hid (show HR X w b F d l (if c = k then A else Option.map (fun x => x.add k) A) (c - k) (r.drop k) (i + j) out.2 v' _ _ from ⟨by have := HQL.out; rw [← HN2O.out] at this; exact this, by rw [List.length_drop]; have := HRR.out.rc; omega, by have := HRR.out.cm; omega, bytes_next HRR.out.at_ hkl HRR.out.rc, ne_next22 HRR.out.ne, by have := HNX.out; rw [← HN2O.out] at this; exact this, HFS.out, hpr.out, hou.out, HAPX.out, HKP.out, hfw.out⟩)
          have HDL := Lib.hid hdl
          clear hdl
          go_wp2_with fail
          go_roundw
          case rel => exact ⟨_, c - k, r.drop k, i + j, out.2, v', by rw [HDL.out], by rw [HDL.out]; omega, HNEXT⟩
          case measure => first | (show m - k < m; omega) | (simp; omega)
    · have hr0 : r = [] := List.eq_nil_of_length_eq_zero (by rw [← HM.out]; omega)
      have hfe := HRR.out.feed
      rw [hr0, Flo.feed_nil HRR.out.fs.st] at hfe
      injection hfe with hf1 hf2
      have hil : i = l.length := by
        have h1 := congrArg List.length hf1
        rw [List.length_map, List.length_drop] at h1
        simp only [List.length_nil] at h1
        have := HRR.out.il
        omega
      have hpe := HRR.out.peer
      have hou := HRR.out.out
      have hfs := HRR.out.fs
      rw [hil, List.take_of_length_le (Nat.le_refl _)] at hpe hou
      rw [hf2] at hfs
      have hvn := FlowS.nil_of hfs
      rw [hvn] at hfs
      have HPE := Lib.hid hpe
      have HOU := Lib.hid hou
      have HFS := Lib.hid hfs
      have HKP := Lib.hid HRR.out.kp
      have hm0'' : m = 0 := by omega
      clear hpe hou hfs hvn hf1 hf2 hil hr0 HRR h0
      subst hm0''
      go_wp2_with fail
      go_ret2
      exact ⟨_, rfl, HOU.out, HPE.out, HFS.out, HKP.out⟩
end Go.Proofs.YtpacgblddeoheaaDoor.P22
