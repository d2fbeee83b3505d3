/- Package tx: has a transaction a form? -/
import Derived.Test.YtacbibflhdmcoaaDoorTx
import Derived.Deep.MidRow
import Derived.Deep.WholeRow
import Derived.Laws.Rows
import Derived.Laws.Tables
namespace Go.Proofs.YtacbibflhdmcoaaDoor.T7
open Go.RowKit Go.Deep
set_option linter.unusedVariables false
set_option linter.unusedSimpArgs false
set_option maxRecDepth 100000
attribute [local go_sem ↓] Go.wp_at_zero Go.wp_at_succ

theorem ret_bool {a b : Bool} (h : a = b) : Ending.returned (.bool a) = .returned (.bool b) := by rw [h]
theorem run_alloc_of {P : Program} {t : TypeId} {cs : Array Value} (w : World) (hz : (P.info? t).map (·.zero) = some (some (.agg cs))) : (Instr.alloc t true (.tuple #[])).run P w = .ok (.pointer (some ⟨w.heap.size, 0, none⟩)) (w.alloc (.cells cs t)) := by
  obtain ⟨i, hi, hz⟩ := Option.map_eq_some_iff.1 hz
  simp [Instr.alloc, zeroValue, typeInfo, hi, hz, newVar, Value.cells, newRow, go_sem]
theorem wpList_allocOf {P : Program} {ops : Array Oper} {rest : List Oper} {o : Oper} {a : Act} {w : World} {Q : Exit → Act → World → Prop} (hg : o.guard = none) (t : TypeId) (ho : o.op = .alloc t) (cs : Array Value) (hz : (P.info? t).map (·.zero) = some (some (.agg cs)))
    (h : wpList P ops Q rest (a.put o.dst (.pointer (some ⟨w.heap.size, 0, none⟩))) (w.alloc (.cells cs t))) : wpList P ops Q (o :: rest) a w :=
  wpList_plain hg fun _ hK => by
    unfold Oper.wp execOp
    simp only [ho, Sem.run_bind, run_alloc_of w hz, Result.andThen_ok]
    exact hK _ _ h
/-- a struct that lies in a row, laid into a variable of its own: load, alloc, store -/
theorem wpList_elem {P : Program} {ops : Array Oper} {rest : List Oper} {o1 o2 o3 : Oper} {a : Act} {w : World} {Q : Exit → Act → World → Prop} (g1 : o1.guard = none) (g2 : o2.guard = none) (g3 : o3.guard = none)
    (T : TypeId) (x p v : Operand) (h1 : o1.op = .load T x) (h2 : o2.op = .alloc T) (h3 : o3.op = .store T p v)
    (b o : Nat) (hx : a.eval x = .pointer (some ⟨b, o, none⟩)) (cs : List Value) (d : TypeDesc) (hc : w.rangeAt b o cs)
    (hu : P.underlying T = some d) (hd : d.isRow = true) (hi : (P.info? T).map (·.size) = some cs.length) (zs : Array Value) (hz : (P.info? T).map (·.zero) = some (some (.agg zs))) (hzl : zs.size = cs.length)
    (hone : ∀ u ∈ cs, u.oneCell' = true)
    (hp : ((a.put o1.dst (.agg cs.toArray)).put o2.dst (.pointer (some ⟨w.heap.size, 0, none⟩))).eval p = .pointer (some ⟨w.heap.size, 0, none⟩))
    (hv : ((a.put o1.dst (.agg cs.toArray)).put o2.dst (.pointer (some ⟨w.heap.size, 0, none⟩))).eval v = .agg cs.toArray)
    (h : wpList P ops Q rest ((((a.put o1.dst (.agg cs.toArray)).put o2.dst (.pointer (some ⟨w.heap.size, 0, none⟩)))).put o3.dst undef) (w.alloc (.cells cs.toArray T))) : wpList P ops Q (o1 :: o2 :: o3 :: rest) a w := by
  refine wpList_load_mid g1 T x h1 b o hx cs d hc hu hd hi ?_
  refine wpList_allocOf g2 T h2 zs hz ?_
  refine wpList_store_row g3 T p v h3 w.heap.size cs.toArray hp hv T zs (heap_alloc_new w _) (by rw [hi]; simp) (by rw [hzl]; simp) (all_oneCell_toArray hone) ?_
  rw [World.setRow_alloc_new]
  exact h
theorem zero_in : (Tryd.prog.info? 91).map (·.zero) = some (some (.agg (inCells ⟨List.replicate 32 0, 0, []⟩ (.slice none 0 0)).toArray)) := by kernel_rfl
theorem zero_out : (Tryd.prog.info? 94).map (·.zero) = some (some (.agg (outCells ⟨0, List.replicate 32 0⟩).toArray)) := by kernel_rfl
theorem size_in : (Tryd.prog.info? 91).map (·.size) = some 34 := by kernel_rfl
theorem size_out : (Tryd.prog.info? 94).map (·.size) = some 33 := by kernel_rfl
theorem inCells_one (x : Txs.In) (A : Option Addr) (n c : Nat) : ∀ u ∈ inCells x (.slice A n c), u.oneCell' = true := by
  intro u hu
  unfold inCells at hu
  rcases List.mem_append.1 hu with h | h
  · exact oneCell_bytes _ u h
  · simp only [List.mem_cons, List.not_mem_nil, or_false] at h
    rcases h with rfl | rfl <;> rfl
theorem outCells_one (x : Txs.Out) : ∀ u ∈ outCells x, u.oneCell' = true := by
  intro u hu
  unfold outCells at hu
  rcases List.mem_cons.1 hu with rfl | h
  · rfl
  · exact oneCell_bytes _ u h
theorem zeroIn_len : (inCells ⟨List.replicate 32 0, 0, []⟩ (.slice none 0 0)).toArray.size = 34 := by simp [inCells]
theorem zeroOut_len : (outCells ⟨0, List.replicate 32 0⟩).toArray.size = 33 := by simp [outCells]
theorem in_key {w : World} {g t : Nat} {x : Txs.In} {u : Value} (h : Bk w g t (inCells x u).toArray) (hx : x.Ok) : w.cell? ⟨g, 33, none⟩ = some u := by
  rw [h.cell]
  simp only [List.getElem?_toArray, inCells]
  rw [List.getElem?_append_right (by rw [List.length_map, hx.1]; omega), List.length_map, hx.1]
  rfl
theorem in_n {w : World} {g t : Nat} {x : Txs.In} {u : Value} (h : Bk w g t (inCells x u).toArray) (hx : x.Ok) : w.cell? ⟨g, 32, none⟩ = some (.int .u32 (x.n : Int)) := by
  rw [h.cell]
  simp only [List.getElem?_toArray, inCells]
  rw [List.getElem?_append_right (by rw [List.length_map, hx.1]; omega), List.length_map, hx.1]
  rfl
theorem all_take' {α : Type} {l : List α} {k : Nat} (hk : k < l.length) (p : α → Bool) (h : (l.take k).all p = true) (hp : p l[k] = true) : (l.take (k + 1)).all p = true := by
  rw [List.take_succ_eq_append_getElem hk, List.all_append, h]; simp [hp]
set_option maxHeartbeats 1000000 in
theorem form_any (t : Txs.Tx) (A A' : Option Addr) (c c' B : Nat) (w : World) (h : TxAt w B t A c A' c') (hB : B ≤ w.heap.size) :
    Calls Tryd.prog 48 #[txV t A c A' c'] w fun e w' => e = .returned (.bool (Txs.form t)) ∧ Below w.heap.size w w' := by
  have hmi := Nat.le_trans h.ic h.im
  have hmo := Nat.le_trans h.oc h.om
  unfold maxLen at hmi hmo
  have HI := Lib.hid h.ins
  unfold txV
  generalize hv : t.version = ver at *
  clear hv h
  obtain ⟨w1, hw1⟩ : ∃ w1, w1 = w.alloc (.cells #[.int .u32 (ver : Int), .slice A t.ins.length c, .slice A' t.outs.length c'] 35) := ⟨_, rfl⟩
  have HK := Lib.hid (show Bk w1 w.heap.size 35 #[.int .u32 (ver : Int), .slice A t.ins.length c, .slice A' t.outs.length c'] by rw [hw1]; exact Bk.new _ _ _)
  have HZ := Lib.hid (show w1.heap.size = w.heap.size + 1 by rw [hw1]; simp)
  have HW := Lib.hid (show Below w.heap.size w w1 by rw [hw1]; exact Joins.below_alloc1 _ _)
  have HI1 := Lib.hid (show InsAt w1 B A t.ins from HI.out.below (HW.out.mono hB))
  have k1 : w1.cell? ⟨w.heap.size, 1, none⟩ = some (.slice A t.ins.length c) := (HK.out.cell 1).trans rfl
  go_enter Tryd.func48, Tryd.ntmps48
  go_wp2_with fail
  rw [← hw1]
  clear hw1
  go_wp2_with fail
  go_loopw [8] (fun i wr => ∃ k : Nat, k ≤ t.ins.length ∧ i = .int .i64 (k : Int) ∧ Hid ((t.ins.take k).all (fun x => decide (x.key.length ≤ 64)) = true) ∧ Hid (Below w1.heap.size w1 wr)) (fun i _ => t.ins.length - (intOf i).toNat)
  case atStart => exact ⟨0, Nat.zero_le _, rfl, Lib.hid rfl, Lib.hid (Below.refl _ _)⟩
  case round =>
    obtain ⟨k, hk, rfl, ha, hb⟩ := hrel
    by_cases hlt : k < t.ins.length
    · obtain ⟨b, off, Ak, ck, rfl, _, hr, hok, hkc, hkm, _⟩ := (HI1.out.below (hb.out.mono (by rw [HZ.out]; omega))).range hlt
      have HN := Lib.hid (fun hp => all_take' hlt (fun x => decide (x.key.length ≤ 64)) ha.out hp)
      have HX : Hid (¬ t.ins[k].key.length ≤ 64 → Txs.form t = false) := Lib.hid fun hp => by
        unfold Txs.form
        rw [show t.ins.all (fun x => decide (x.key.length ≤ 64)) = false from by rw [List.all_eq_false]; exact ⟨t.ins[k], List.getElem_mem hlt, by simpa using hp⟩]
        rfl
      have HR := Lib.hid hr
      have HOK := Lib.hid hok
      clear hr hok
      generalize t.ins[k] = x at *
      have HL := Lib.hid (inCells_len HOK.out (.slice Ak x.key.length ck))
      have HKY := Lib.hid (in_key (Bk.new _ 91 (inCells x (.slice Ak x.key.length ck)).toArray : Bk (wr.alloc (.cells (inCells x (.slice Ak x.key.length ck)).toArray 91)) wr.heap.size _ _) HOK.out)
      have HONE := Lib.hid (inCells_one x Ak x.key.length ck)
      have hkl : x.key.length ≤ 9223372036854775807 := by unfold maxLen at hkm; omega
      obtain ⟨ky, hky⟩ : ∃ ky, ky = x.key.length := ⟨_, rfl⟩
      rw [← hky] at HR HL HKY HONE hkl HN HX hkc
      generalize hcs : inCells x (.slice Ak ky ck) = cs at *
      have HZI := zero_in
      have HZL := Lib.hid zeroIn_len
      generalize (inCells ⟨List.replicate 32 0, 0, []⟩ (.slice none 0 0)).toArray = zs at *
      have HZI := Lib.hid HZI
      clear hky hcs
      go_wp2_with (refine wpList_elem rfl rfl rfl 91 (.tmp 10) (.tmp 4) (.tmp 11) rfl rfl rfl b (off + k * 34) (by rfl) cs _ HR.out Tryd.underlying91 rfl (by rw [HL.out]; exact size_in) zs HZI.out (by rw [HZL.out, HL.out]) HONE.out (by rfl) (by rfl) ?_; have hcell := HKY.out)
      · have h64 : (64 : Int) < (ky : Int) := by assumption
        go_ret
        exact ⟨ret_bool (HX.out (by omega)).symm, HW.out.trans ((hb.out.alloc hb.out.size _).mono (by rw [HZ.out]; omega))⟩
      · have h64 : (ky : Int) ≤ 64 := by assumption
        go_roundw
        case rel => exact ⟨k + 1, by omega, by go_num, Lib.hid (HN.out (by rw [decide_eq_true_eq]; omega)), Lib.hid (hb.out.alloc hb.out.size _)⟩
        case measure => simp [intOf]; omega
    · have hkl : k = t.ins.length := by omega
      have HA := Lib.hid (show t.ins.all (fun x => decide (x.key.length ≤ 64)) = true by have := ha.out; rwa [hkl, List.take_of_length_le (Nat.le_refl _)] at this)
      have c1 : wr.cell? ⟨w.heap.size, 1, none⟩ = some (.slice A t.ins.length c) := (hb.out.cell (p := ⟨w.heap.size, 1, none⟩) HK.out.lt).trans ((HK.out.cell 1).trans rfl)
      have c2 : wr.cell? ⟨w.heap.size, 2, none⟩ = some (.slice A' t.outs.length c') := (hb.out.cell (p := ⟨w.heap.size, 2, none⟩) HK.out.lt).trans ((HK.out.cell 2).trans rfl)
      have HB := Lib.hid (HW.out.trans (hb.out.mono (by rw [HZ.out]; omega)))
      have HF := Lib.hid (show Txs.form t = (decide (t.ins.length ≤ 8) && decide (t.outs.length ≤ 8)) by unfold Txs.form; rw [HA.out]; rfl)
      clear hkl ha k1 hb
      by_cases hi8 : t.ins.length ≤ 8
      · have hi8' : (t.ins.length : Int) ≤ 8 := by omega
        go_wp2_with fail
        go_ret
        refine ⟨ret_bool ?_, HB.out⟩
        rw [HF.out, decide_eq_true hi8, Bool.true_and, decide_eq_decide]
        omega
      · have hi8' : ¬ (t.ins.length : Int) ≤ 8 := by omega
        go_wp2_with fail
        go_ret
        refine ⟨ret_bool ?_, HB.out⟩
        rw [HF.out, decide_eq_false hi8]
        rfl
end Go.Proofs.YtacbibflhdmcoaaDoor.T7
