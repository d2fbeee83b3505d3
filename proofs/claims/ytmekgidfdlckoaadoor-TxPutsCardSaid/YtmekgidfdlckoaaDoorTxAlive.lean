/- The document's examples of transactions. -/
import Derived.Test.YtmekgidfdlckoaaDoorTxSame
namespace Go.Proofs.YtmekgidfdlckoaaDoor.T7
open Go.RowKit Go.Deep
set_option linter.unusedVariables false
set_option linter.unusedSimpArgs false
set_option maxRecDepth 100000
attribute [local go_sem ↓] Go.wp_at_zero Go.wp_at_succ

theorem check_long (t : Txs.Tx) (A A' : Option Addr) (c c' B : Nat) (w : World) (h : TxAt w B t A c A' c') (hB : B ≤ w.heap.size) (hf : Txs.form t = false) :
    Calls Tryd.prog 22 #[txV t A c A' c'] w fun e w' => e = .returned (.int .i64 5) ∧ Below w.heap.size w w' := by
  have HF := fun W hb1 hb2 => form_any t A A' c c' B W (h.below hb1) hb2
  rw [hf] at HF
  unfold txV at HF ⊢
  have HFF := Lib.hid HF
  clear h hf HF
  go_enter Tryd.func22, Tryd.ntmps22
  go_wp2_with fail
  refine (HFF.out _ (Below.mono (Joins.below_alloc1 _ _) hB) (by simp; omega)).mono ?_
  rintro e w1 ⟨rfl, hb⟩
  go_wp2_with fail
  go_ret
  exact ⟨rfl, (Joins.below_alloc1 _ _).trans (hb.mono (by simp))⟩
theorem check_none (t : Txs.Tx) (A A' : Option Addr) (c c' B : Nat) (w : World) (h : TxAt w B t A c A' c') (hB : B ≤ w.heap.size) (hf : Txs.form t = true) (h0 : t.ins.length = 0 ∨ t.outs.length = 0) :
    Calls Tryd.prog 22 #[txV t A c A' c'] w fun e w' => e = .returned (.int .i64 9) ∧ Below w.heap.size w w' := by
  have HF := fun W hb1 hb2 => form_any t A A' c c' B W (h.below hb1) hb2
  rw [hf] at HF
  unfold txV at HF ⊢
  have HFF := Lib.hid HF
  have HK := Lib.hid (Bk.new w 26 #[.int .u32 (t.version : Int), .slice A t.ins.length c, .slice A' t.outs.length c'])
  have hmi := Nat.le_trans h.ic h.im
  have hmo := Nat.le_trans h.oc h.om
  unfold maxLen at hmi hmo
  clear h hf HF
  generalize t.ins.length = n at *
  generalize t.outs.length = m at *
  generalize t.version = ver at *
  by_cases hn : n = 0
  · subst hn
    clear h0
    go_enter Tryd.func22, Tryd.ntmps22
    go_wp2_with fail
    refine (HFF.out _ (Below.mono (Joins.below_alloc1 _ _) hB) (by simp; omega)).mono ?_
    rintro e w1 ⟨rfl, hb⟩
    have c1 : w1.cell? ⟨w.heap.size, 1, none⟩ = some (.slice A 0 c) := ((HK.out.below hb (by simp)).cell 1).trans rfl
    have HB := Lib.hid hb
    clear hb
    go_wp2_with fail
    go_ret
    exact ⟨rfl, (Joins.below_alloc1 _ _).trans (HB.out.mono (by simp))⟩
  · obtain rfl : m = 0 := by omega
    have hne : ((n : Int) == 0) = false := by rw [beq_eq_false_iff_ne]; omega
    clear h0
    go_enter Tryd.func22, Tryd.ntmps22
    go_wp2_with fail
    refine (HFF.out _ (Below.mono (Joins.below_alloc1 _ _) hB) (by simp; omega)).mono ?_
    rintro e w1 ⟨rfl, hb⟩
    have c1 : w1.cell? ⟨w.heap.size, 1, none⟩ = some (.slice A n c) := ((HK.out.below hb (by simp)).cell 1).trans rfl
    have c2 : w1.cell? ⟨w.heap.size, 2, none⟩ = some (.slice A' 0 c') := ((HK.out.below hb (by simp)).cell 2).trans rfl
    have HB := Lib.hid hb
    clear hb
    go_wp2_with fail
    go_ret
    exact ⟨rfl, (Joins.below_alloc1 _ _).trans (HB.out.mono (by simp))⟩
/-! ### the examples -/
def ex1 : Txs.Tx := ⟨1, [], []⟩
def exIn : Txs.In := ⟨List.replicate 32 0, 0, [5]⟩
def exOut : Txs.Out := ⟨7, List.replicate 32 0⟩
def ex2 : Txs.Tx := ⟨0, [exIn], [exOut]⟩
theorem ex1_bytes : Txs.bytes ex1 = [1, 0, 0, 0, 0, 0] := by decide
theorem ex2_ok : ex2.Ok := ⟨by decide, by intro x hx; rw [List.mem_singleton.1 hx]; exact ⟨rfl, by decide⟩, by intro x hx; rw [List.mem_singleton.1 hx]; exact ⟨by decide, rfl⟩⟩
theorem ex2_form : Txs.form ex2 = true := by decide
theorem ex2_len : (Txs.bytes ex2).length = 84 := by rw [Txs.bytes_len ex2_ok]; rfl
theorem ex_get : Txs.get [1, 0, 0, 0, 9] = (Txs.none, 0, 5) := by decide
theorem ex1_at (w : World) (B : Nat) : TxAt w B ex1 none 0 none 0 :=
  ⟨by show 1 < 4294967296; omega, Nat.le_refl _, by simp [maxLen], Nat.le_refl _, by simp [maxLen], At.nil _ _ _, At.nil _ _ _⟩
theorem put_ex1 (w : World) : Calls Tryd.prog 7 #[.agg #[.int .u32 1, .slice none 0 0, .slice none 0 0]] w fun e w' => ∃ v, e = .returned (.tuple #[v, .int .i64 0]) ∧ OwnB w' w.heap.size v [1, 0, 0, 0, 0, 0] ∧ Below w.heap.size w w' := by
  have := put_yes ex1 none none 0 0 0 w (ex1_at w 0) (Nat.zero_le _) (by decide)
  rw [ex1_bytes] at this
  exact this
theorem check_ex (w : World) : Calls Tryd.prog 22 #[.agg #[.int .u32 0, .slice none 0 0, .slice none 0 0]] w fun e w' => e = .returned (.int .i64 9) ∧ Below w.heap.size w w' :=
  check_none Txs.none none none 0 0 0 w (none_at w 0) (Nat.zero_le _) (by decide) (.inl rfl)
theorem wpList_built7 {P : Program} {ops : Array Oper} {rest : List Oper} {o : Oper} {a : Act} {w : World} {Q : Exit → Act → World → Prop} (hg : o.guard = none) (t : TypeId) (parts : Array (Nat × Operand)) (ho : o.op = .build t parts)
    (cells : Array Value) (hf : P.built t (parts.map fun (i, x) => (i, a.eval x)).toList = some cells)
    (h : wpList P ops Q rest (a.put o.dst (.agg cells)) w) : wpList P ops Q (o :: rest) a w :=
  wpList_build hg t parts ho (by rw [hf]; rfl) (by rw [hf]; exact h)
theorem built_in (g : Nat) : Tryd.prog.built 57 [(1, .slice (some ⟨g, 0, none⟩) 1 1)] = some (inCells exIn (.slice (some ⟨g, 0, none⟩) 1 1)).toArray := by kernel_rfl
theorem built_out : Tryd.prog.built 45 [(0, .int .u64 7)] = some (outCells exOut).toArray := by kernel_rfl
theorem bk_bytes7 {w : World} {g t : Nat} {bs : List UInt8} (h : Bk w g t (bytesArr bs)) : BytesAt w w.heap.size (some ⟨g, 0, none⟩) bs := by
  intro i hi
  refine ⟨g, 0, [byteV bs[i]], rfl, h.lt, rfl, fun j hj => ?_⟩
  have hj0 : j = 0 := by simpa using hj
  subst hj0
  rw [h.cell]
  simp [bytesArr, hi]
/-- the second example lies in three blocks -/
theorem ex2_at {w : World} {g1 g2 g3 B : Nat} (h1 : Bk w g1 5 #[.int .u8 5]) (h2 : Bk w g2 57 (inCells exIn (.slice (some ⟨g1, 0, none⟩) 1 1)).toArray) (h3 : Bk w g3 45 (outCells exOut).toArray)
    (b1 : g1 < B) (b2 : g2 < B) (b3 : g3 < B) : TxAt w B ex2 (some ⟨g2, 0, none⟩) 1 (some ⟨g3, 0, none⟩) 1 := by
  refine ⟨by decide, Nat.le_refl _, by simp [maxLen], Nat.le_refl _, by simp [maxLen], fun i hi => ?_, fun i hi => ?_⟩
  · have : i = 0 := by simp [ex2] at hi; exact hi
    subst this
    refine ⟨g2, 0, _, rfl, b2, ⟨⟨rfl, by show 0 < 4294967296; omega⟩, some ⟨g1, 0, none⟩, 1, rfl, Nat.le_refl _, by simp [maxLen], fun j hj => ?_⟩, fun j hj => ?_⟩
    · have : j = 0 := by simp [ex2, exIn] at hj; exact hj
      subst this
      refine ⟨g1, 0, [byteV 5], rfl, b1, rfl, fun k hk => ?_⟩
      have : k = 0 := by simpa using hk
      subst this
      exact (h1.cell 0).trans rfl
    · have := bk_range h2 j _ (List.getElem?_eq_getElem hj)
      simpa using this
  · have : i = 0 := by simp [ex2] at hi; exact hi
    subst this
    refine ⟨g3, 0, _, rfl, b3, ⟨⟨by show 7 < 18446744073709551616; omega, rfl⟩, rfl⟩, fun j hj => ?_⟩
    have := bk_range h3 j _ (List.getElem?_eq_getElem hj)
    simpa using this
theorem get_exw (W : World) : Calls Tryd.prog 19 #[.slice (some ⟨W.heap.size, 0, none⟩) 5 5] (W.alloc (.cells #[.int .u8 1, .int .u8 0, .int .u8 0, .int .u8 0, .int .u8 9] 5)) fun e w' => GetOut7 (W.alloc (.cells #[.int .u8 1, .int .u8 0, .int .u8 0, .int .u8 0, .int .u8 9] 5)) w' (Txs.none, 0, 5) e := by
  have hb : Bk (W.alloc (.cells #[.int .u8 1, .int .u8 0, .int .u8 0, .int .u8 0, .int .u8 9] 5)) W.heap.size 5 (bytesArr [1, 0, 0, 0, 9]) := Bk.new _ _ _
  have := get_any (some ⟨W.heap.size, 0, none⟩) 5 5 _ [1, 0, 0, 0, 9] _ rfl (Nat.le_refl _) (by simp [maxLen]) (by omega) (bk_bytes7 hb) (Nat.le_refl _)
  rw [ex_get] at this
  exact this
set_option maxHeartbeats 4000000 in
theorem tx_alive (w : World) : Calls Tryd.prog 5 #[] w fun e w' => e = .returned (.bool true) ∧ Below w.heap.size w w' := by
  have HCK := Lib.hid check_ex
  go_enter Tryd.func5, Tryd.ntmps5
  go_wp2_with fail
  refine (put_ex1 _).mono ?_
  rintro e w1 ⟨v1, rfl, ho1, hb1⟩
  obtain ⟨A1, c1, rfl, _, _, hat1, _⟩ := ho1.at_
  have HB1 := Lib.hid hb1
  have HA1 := Lib.hid hat1
  clear hb1 hat1 ho1
  go_wp2_with fail
  refine (get_exw _).mono ?_
  rintro e w2 ⟨A2, c2, A2', c2', rfl, _, hb2⟩
  have HB2 := Lib.hid (HB1.out.trans (((Joins.below_alloc1 w1 _).trans (hb2.mono (by simp))).mono HB1.out.size))
  have HA2 := Lib.hid (At.below HA1.out ((Joins.below_alloc1 w1 _).trans (hb2.mono (by simp))))
  have hz12 := (((Joins.below_alloc1 w1 _).trans (hb2.mono (by simp)))).size
  clear hb2 HA1
  unfold txV
  obtain ⟨cx, hcx⟩ : ∃ cx : Nat → Array Value, cx = fun g => (inCells exIn (.slice (some ⟨g, 0, none⟩) 1 1)).toArray := ⟨_, rfl⟩
  have hbi : ∀ g, Tryd.prog.built 57 [(1, .slice (some ⟨g, 0, none⟩) 1 1)] = some (cx g) := fun g => by rw [hcx]; exact built_in g
  have hsi : ∀ g, (cx g).size = 34 := fun g => by rw [hcx]; simp [inCells, exIn]
  obtain ⟨co, hco⟩ : ∃ co : Array Value, co = (outCells exOut).toArray := ⟨_, rfl⟩
  have hbo : Tryd.prog.built 45 [(0, .int .u64 7)] = some co := by rw [hco]; exact built_out
  have hso : co.size = 33 := by rw [hco]; simp [outCells, exOut]
  have HBI := Lib.hid hbi
  have HSI := Lib.hid hsi
  have HBO := Lib.hid hbo
  have HSO := Lib.hid hso
  have HCX := Lib.hid hcx
  have HCO := Lib.hid hco
  have HZI := Lib.hid zero_in
  have HZO := Lib.hid zero_out
  clear hcx hbi hsi hco hbo hso
  go_upto_region 3 with (fail)
  obtain ⟨wa, hwa⟩ : ∃ wa, wa = w2.alloc (.cells #[.int .u32 (Txs.none.version : Int), .slice A2 Txs.none.ins.length c2, .slice A2' Txs.none.outs.length c2'] 26) := ⟨_, rfl⟩
  rw [← hwa]
  have HBA := Lib.hid (show Below w2.heap.size w2 wa by rw [hwa]; exact Joins.below_alloc1 _ _)
  clear hwa
  generalize Txs.none.version = nv
  generalize Txs.none.ins.length = ni
  generalize Txs.none.outs.length = no
  obtain ⟨wb, hwb⟩ : ∃ wb, wb = (((wa.alloc (.cells #[.int .u8 5] 5)).alloc (.cells (cx wa.heap.size) 57)).alloc (.cells co 45)).alloc (.cells #[.int .u32 0, .slice (some ⟨wa.heap.size + 1, 0, none⟩) 1 1, .slice (some ⟨wa.heap.size + 2, 0, none⟩) 1 1] 26) := ⟨_, rfl⟩
  have hbb : Below wa.heap.size wa wb := by
    rw [hwb]
    exact ((((Below.refl _ _).alloc (Nat.le_refl _) _).alloc (by simp) _).alloc (by simp; omega) _).alloc (by simp; omega) _
  have k1 : Bk wb wa.heap.size 5 #[.int .u8 5] := by rw [hwb]; exact (((Bk.new wa _ _).alloc _).alloc _).alloc _
  have k2 : Bk wb (wa.heap.size + 1) 57 (inCells exIn (.slice (some ⟨wa.heap.size, 0, none⟩) 1 1)).toArray := by
    rw [hwb]
    have := ((Bk.new (wa.alloc (.cells #[.int .u8 5] 5)) 57 (cx wa.heap.size)).alloc (.cells co 45)).alloc (.cells #[.int .u32 0, .slice (some ⟨wa.heap.size + 1, 0, none⟩) 1 1, .slice (some ⟨wa.heap.size + 2, 0, none⟩) 1 1] 26)
    rw [show (wa.alloc (.cells #[.int .u8 5] 5)).heap.size = wa.heap.size + 1 by simp] at this
    rw [HCX.out] at this ⊢
    exact this
  have k3 : Bk wb (wa.heap.size + 2) 45 (outCells exOut).toArray := by
    rw [hwb]
    have := (Bk.new ((wa.alloc (.cells #[.int .u8 5] 5)).alloc (.cells (cx wa.heap.size) 57)) 45 co).alloc (.cells #[.int .u32 0, .slice (some ⟨wa.heap.size + 1, 0, none⟩) 1 1, .slice (some ⟨wa.heap.size + 2, 0, none⟩) 1 1] 26)
    rw [show ((wa.alloc (.cells #[.int .u8 5] 5)).alloc (.cells (cx wa.heap.size) 57)).heap.size = wa.heap.size + 2 by simp] at this
    rw [← HCO.out]
    exact this
  have k4 : Bk wb (wa.heap.size + 3) 26 #[.int .u32 0, .slice (some ⟨wa.heap.size + 1, 0, none⟩) 1 1, .slice (some ⟨wa.heap.size + 2, 0, none⟩) 1 1] := by
    rw [hwb]
    have := Bk.new (((wa.alloc (.cells #[.int .u8 5] 5)).alloc (.cells (cx wa.heap.size) 57)).alloc (.cells co 45)) 26 #[.int .u32 0, .slice (some ⟨wa.heap.size + 1, 0, none⟩) 1 1, .slice (some ⟨wa.heap.size + 2, 0, none⟩) 1 1]
    rw [show (((wa.alloc (.cells #[.int .u8 5] 5)).alloc (.cells (cx wa.heap.size) 57)).alloc (.cells co 45)).heap.size = wa.heap.size + 3 by simp] at this
    exact this
  have hzb : wb.heap.size = wa.heap.size + 4 := by rw [hwb]; simp
  have hat := ex2_at (B := wb.heap.size) k1 k2 k3 (by omega) (by omega) (by omega)
  have HBB := Lib.hid hbb
  have HK4 := Lib.hid k4
  have HT := Lib.hid hat
  have HZB := Lib.hid hzb
  clear hbb k1 k2 k3 k4 hzb hat
  go_upto_region 4 with (first
    | (refine wpList_built7 rfl 57 #[(1, .tmp 24)] rfl (cx wa.heap.size) ?hb1 ?_)
    | (refine wpList_buildOne rfl 23 57 (.tmp 25) rfl (cx wa.heap.size) (by rfl) Tryd.underlying23 (by rw [HSI.out]; exact size_in) _ HZI.out (by rw [HSI.out]; omega) (by rw [HSI.out]; omega) ?_)
    | (refine wpList_built7 rfl 45 #[(0, .const (.int .u64 7))] rfl co ?hb2 ?_)
    | (refine wpList_buildOne rfl 24 45 (.tmp 27) rfl co (by rfl) Tryd.underlying24 (by rw [HSO.out]; exact size_out) _ HZO.out (by rw [HSO.out]; omega) (by rw [HSO.out]; omega) ?_))
  case hb1 => simpa [Act.eval] using HBI.out wa.heap.size
  case hb2 => simpa [Act.eval] using HBO.out
  rw [← hwb]
  clear hwb
  have e0 : wb.cell? ⟨wa.heap.size + 3, 0, none⟩ = some (.int .u32 0) := (HK4.out.cell 0).trans rfl
  have e1 : wb.cell? ⟨wa.heap.size + 3, 1, none⟩ = some (.slice (some ⟨wa.heap.size + 1, 0, none⟩) 1 1) := (HK4.out.cell 1).trans rfl
  have e2 : wb.cell? ⟨wa.heap.size + 3, 2, none⟩ = some (.slice (some ⟨wa.heap.size + 2, 0, none⟩) 1 1) := (HK4.out.cell 2).trans rfl
  have HPT := Lib.hid (show Calls Tryd.prog 7 #[.agg #[.int .u32 0, .slice (some ⟨wa.heap.size + 1, 0, none⟩) 1 1, .slice (some ⟨wa.heap.size + 2, 0, none⟩) 1 1]] wb _ from put_yes ex2 _ _ 1 1 _ wb HT.out (Nat.le_refl _) ex2_form)
  go_wp2_with fail
  refine HPT.out.mono ?_
  rintro e w3 ⟨v3, rfl, ho3, hb3⟩
  obtain ⟨A3, c3, rfl, hc3, hm3, hat3, _⟩ := ho3.at_
  have HL3 := Lib.hid ex2_len
  have HB3 := Lib.hid hb3
  have HA3 := Lib.hid hat3
  have HT3 := Lib.hid ((HT.out.below hb3).mono hb3.size)
  have HW3 := Lib.hid (whole_any A3 _ c3 _ (Txs.bytes ex2) w3 rfl hc3 hm3 (by rw [ex2_len]; omega) hat3 (Nat.le_refl _))
  rw [Txs.whole_put ex2_ok ex2_form] at HW3
  have HK4' := Lib.hid (HK4.out.below hb3 (by rw [HZB.out]; omega))
  rw [ex2_len] at HW3 hc3 ⊢
  clear hb3 hat3 ho3 e0 e1 e2 HPT hm3
  go_wp2_with fail
  refine HW3.out.mono ?_
  rintro e w4 ⟨A4, c4, A4', c4', rfl, hn4, hb4⟩
  rw [show txV (ex2, (0 : Int)).1 A4 c4 A4' c4' = .agg #[.int .u32 0, .slice A4 1 c4, .slice A4' 1 c4'] from rfl]
  have HB4 := Lib.hid hb4
  have hz34 := HB3.out.size
  have hz4 := hb4.size
  have HT4 := Lib.hid ((HT3.out.below hb4).mono hb4.size)
  have HU4 := Lib.hid (TxNew.at_ hn4)
  have HK44 := Lib.hid (HK4'.out.below hb4 (by have := HZB.out; omega))
  clear hb4 hn4 HW3 HK4' HT3
  go_upto_region 6 with (fail)
  obtain ⟨wc, hwc⟩ : ∃ wc, wc = w4.alloc (.cells #[.int .u32 0, .slice A4 1 c4, .slice A4' 1 c4'] 26) := ⟨_, rfl⟩
  rw [← hwc]
  have HBC := Lib.hid (show Below w4.heap.size w4 wc by rw [hwc]; exact Joins.below_alloc1 _ _)
  have HKC := Lib.hid (show Bk wc w4.heap.size 26 #[.int .u32 0, .slice A4 1 c4, .slice A4' 1 c4'] by rw [hwc]; exact Bk.new _ _ _)
  have HZC := Lib.hid (show wc.heap.size = w4.heap.size + 1 by rw [hwc]; simp)
  have HTC := Lib.hid ((HT4.out.below HBC.out).mono HBC.out.size)
  have HUC := Lib.hid ((HU4.out.below HBC.out).mono HBC.out.size)
  have HK4C := Lib.hid (HK44.out.below HBC.out (by have := HZB.out; omega))
  have e0 : wc.cell? ⟨wa.heap.size + 3, 0, none⟩ = some (.int .u32 0) := (HK4C.out.cell 0).trans rfl
  have e1 : wc.cell? ⟨wa.heap.size + 3, 1, none⟩ = some (.slice (some ⟨wa.heap.size + 1, 0, none⟩) 1 1) := (HK4C.out.cell 1).trans rfl
  have e2 : wc.cell? ⟨wa.heap.size + 3, 2, none⟩ = some (.slice (some ⟨wa.heap.size + 2, 0, none⟩) 1 1) := (HK4C.out.cell 2).trans rfl
  have HSZ := Lib.hid (show Calls Tryd.prog 12 #[.agg #[.int .u32 0, .slice (some ⟨wa.heap.size + 1, 0, none⟩) 1 1, .slice (some ⟨wa.heap.size + 2, 0, none⟩) 1 1]] wc _ from size_yes ex2 _ _ 1 1 _ wc HTC.out (Nat.le_refl _) ex2_form)
  rw [ex2_len] at HSZ
  clear hwc HT4 HU4 HK44
  go_wp2_with fail
  refine HSZ.out.mono ?_
  rintro e w5 ⟨rfl, hb5⟩
  have HB5 := Lib.hid hb5
  have hz5 := hb5.size
  have HT5 := Lib.hid ((HTC.out.below hb5).mono hb5.size)
  have HU5 := Lib.hid ((HUC.out.below hb5).mono hb5.size)
  have HK5 := Lib.hid (HK4C.out.below hb5 (by have := HZB.out; have := HZC.out; omega))
  have HKU := Lib.hid (HKC.out.below hb5 HKC.out.lt)
  have hzc := HZC.out
  have hzb := HZB.out
  have HBW5 := Lib.hid (HB2.out.trans ((HBA.out.trans ((HBB.out.trans ((HB3.out.trans ((HB4.out.trans ((HBC.out.trans (HB5.out.mono (by omega))).mono (by omega))).mono (by omega))).mono (by omega))).mono HBA.out.size)).mono HB2.out.size))
  have hzw := HBW5.out.size
  clear hb5 HSZ e0 e1 e2 HTC HUC
  go_wp2_with fail
  obtain ⟨wd, hwd⟩ : ∃ wd, wd = w5.alloc (.cells #[.int .u8 1, .int .u8 0, .int .u8 0, .int .u8 0, .int .u8 0, .int .u8 0] 5) := ⟨_, rfl⟩
  have hbd : Below w5.heap.size w5 wd := by rw [hwd]; exact Joins.below_alloc1 _ _
  have hkd : Bk wd w5.heap.size 5 (bytesArr [1, 0, 0, 0, 0, 0]) := by rw [hwd]; exact Bk.new _ _ _
  rw [← hwd]
  have h25 : Below w2.heap.size w2 w5 := HBA.out.trans ((HBB.out.trans ((HB3.out.trans ((HB4.out.trans ((HBC.out.trans (HB5.out.mono (by omega))).mono (by omega))).mono (by omega))).mono (by omega))).mono HBA.out.size)
  have h2d : Below w2.heap.size w2 wd := h25.trans (hbd.mono h25.size)
  have HSM := Lib.hid (same_yes A1 (some ⟨w5.heap.size, 0, none⟩) 6 6 c1 6 [1, 0, 0, 0, 0, 0] wd _ _ rfl rfl (by omega) (At.below HA2.out (h2d.mono hz12)) (bk_bytes7 hkd))
  clear hwd hkd
  refine HSM.out.mono ?_
  rintro e w6 ⟨rfl, hb6⟩
  have h56 : Below w5.heap.size w5 w6 := hbd.trans (hb6.mono hbd.size)
  have H56 := Lib.hid h56
  have hz6 := h56.size
  have HT6 := Lib.hid ((HT5.out.below h56).mono h56.size)
  have HU6 := Lib.hid ((HU5.out.below h56).mono h56.size)
  have HK6 := Lib.hid (HK5.out.below h56 HK5.out.lt)
  have HKU6 := Lib.hid (HKU.out.below h56 HKU.out.lt)
  have e0 : w6.cell? ⟨wa.heap.size + 3, 0, none⟩ = some (.int .u32 0) := (HK6.out.cell 0).trans rfl
  have e1 : w6.cell? ⟨wa.heap.size + 3, 1, none⟩ = some (.slice (some ⟨wa.heap.size + 1, 0, none⟩) 1 1) := (HK6.out.cell 1).trans rfl
  have e2 : w6.cell? ⟨wa.heap.size + 3, 2, none⟩ = some (.slice (some ⟨wa.heap.size + 2, 0, none⟩) 1 1) := (HK6.out.cell 2).trans rfl
  have g0 : w6.cell? ⟨w4.heap.size, 0, none⟩ = some (.int .u32 0) := (HKU6.out.cell 0).trans rfl
  have g1 : w6.cell? ⟨w4.heap.size, 1, none⟩ = some (.slice A4 1 c4) := (HKU6.out.cell 1).trans rfl
  have g2 : w6.cell? ⟨w4.heap.size, 2, none⟩ = some (.slice A4' 1 c4') := (HKU6.out.cell 2).trans rfl
  have HRS := Lib.hid (show Calls Tryd.prog 21 #[.agg #[.int .u32 0, .slice (some ⟨wa.heap.size + 1, 0, none⟩) 1 1, .slice (some ⟨wa.heap.size + 2, 0, none⟩) 1 1], .agg #[.int .u32 0, .slice A4 1 c4, .slice A4' 1 c4']] w6 _ from rsame_any ex2 ex2 _ _ _ _ 1 1 c4 c4' _ _ w6 HT6.out HU6.out (Nat.le_refl _) (Nat.le_refl _))
  rw [show decide (ex2 = ex2) = true from decide_eq_true rfl] at HRS
  clear h56 h25 h2d hbd hb6
  go_wp2_with fail
  refine HRS.out.mono ?_
  rintro e w7 ⟨rfl, hb7⟩
  have HB7 := Lib.hid hb7
  clear hb7 e0 e1 e2 g0 g1 g2
  go_wp2_with fail
  refine (HCK.out _).mono ?_
  rintro e w8 ⟨rfl, hb8⟩
  have HB8 := Lib.hid (HBW5.out.trans ((H56.out.trans ((HB7.out.trans (hb8.mono HB7.out.size)).mono hz6)).mono (by omega)))
  clear hb8
  go_wp2_with fail
  go_ret
  exact ⟨rfl, HB8.out⟩
end Go.Proofs.YtmekgidfdlckoaaDoor.T7
