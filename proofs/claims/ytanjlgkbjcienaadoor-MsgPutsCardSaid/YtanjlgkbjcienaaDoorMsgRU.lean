/- MsgRU, merged: MsgRUse, MsgRPut. -/
import Derived.Test.YtanjlgkbjcienaaDoorMsgGF
import Derived.Test.YtanjlgkbjcienaaDoorRefVar
import Derived.Test.YtanjlgkbjcienaaDoorRef02
import Derived.Test.YtanjlgkbjcienaaDoorTxRPut
import Derived.Test.YtanjlgkbjcienaaDoorFrame
/- The document's Put of a message: what it asks of a kind. -/
namespace Go.Proofs.YtanjlgkbjcienaaDoor.M8
open Go.RowKit Go.Deep T7
set_option linter.unusedVariables false
set_option linter.unusedSimpArgs false
set_option maxRecDepth 100000
attribute [local go_sem ↓] Go.wp_at_zero Go.wp_at_succ

theorem rusesN_1 (w : World) : Calls Tryd.prog 34 #[.int .i64 1] w fun e w' => e = .returned (.bool true) ∧ w = w' := by
  go_enter Tryd.func34, Tryd.ntmps34
  go_wp2_with fail
  go_ret
  exact ⟨rfl, rfl⟩
theorem rusesN_2 (w : World) : Calls Tryd.prog 34 #[.int .i64 2] w fun e w' => e = .returned (.bool false) ∧ w = w' := by
  go_enter Tryd.func34, Tryd.ntmps34
  go_wp2_with fail
  go_ret
  exact ⟨rfl, rfl⟩
theorem rusesN_3 (w : World) : Calls Tryd.prog 34 #[.int .i64 3] w fun e w' => e = .returned (.bool true) ∧ w = w' := by
  go_enter Tryd.func34, Tryd.ntmps34
  go_wp2_with fail
  go_ret
  exact ⟨rfl, rfl⟩
theorem rusesN_4 (w : World) : Calls Tryd.prog 34 #[.int .i64 4] w fun e w' => e = .returned (.bool true) ∧ w = w' := by
  go_enter Tryd.func34, Tryd.ntmps34
  go_wp2_with fail
  go_ret
  exact ⟨rfl, rfl⟩
theorem rusesN_5 (w : World) : Calls Tryd.prog 34 #[.int .i64 5] w fun e w' => e = .returned (.bool false) ∧ w = w' := by
  go_enter Tryd.func34, Tryd.ntmps34
  go_wp2_with fail
  go_ret
  exact ⟨rfl, rfl⟩
theorem rusesN_6 (w : World) : Calls Tryd.prog 34 #[.int .i64 6] w fun e w' => e = .returned (.bool false) ∧ w = w' := by
  go_enter Tryd.func34, Tryd.ntmps34
  go_wp2_with fail
  go_ret
  exact ⟨rfl, rfl⟩
theorem rusesN_7 (w : World) : Calls Tryd.prog 34 #[.int .i64 7] w fun e w' => e = .returned (.bool false) ∧ w = w' := by
  go_enter Tryd.func34, Tryd.ntmps34
  go_wp2_with fail
  go_ret
  exact ⟨rfl, rfl⟩
theorem rusesN_8 (w : World) : Calls Tryd.prog 34 #[.int .i64 8] w fun e w' => e = .returned (.bool false) ∧ w = w' := by
  go_enter Tryd.func34, Tryd.ntmps34
  go_wp2_with fail
  go_ret
  exact ⟨rfl, rfl⟩
theorem rusesN_9 (w : World) : Calls Tryd.prog 34 #[.int .i64 9] w fun e w' => e = .returned (.bool false) ∧ w = w' := by
  go_enter Tryd.func34, Tryd.ntmps34
  go_wp2_with fail
  go_ret
  exact ⟨rfl, rfl⟩
theorem rusesN_10 (w : World) : Calls Tryd.prog 34 #[.int .i64 10] w fun e w' => e = .returned (.bool false) ∧ w = w' := by
  go_enter Tryd.func34, Tryd.ntmps34
  go_wp2_with fail
  go_ret
  exact ⟨rfl, rfl⟩
theorem rusesN_11 (w : World) : Calls Tryd.prog 34 #[.int .i64 11] w fun e w' => e = .returned (.bool false) ∧ w = w' := by
  go_enter Tryd.func34, Tryd.ntmps34
  go_wp2_with fail
  go_ret
  exact ⟨rfl, rfl⟩
theorem rusesCode_1 (w : World) : Calls Tryd.prog 35 #[.int .i64 1] w fun e w' => e = .returned (.bool true) ∧ w = w' := by
  go_enter Tryd.func35, Tryd.ntmps35
  go_wp2_with fail
  go_ret
  exact ⟨rfl, rfl⟩
theorem rusesCode_2 (w : World) : Calls Tryd.prog 35 #[.int .i64 2] w fun e w' => e = .returned (.bool false) ∧ w = w' := by
  go_enter Tryd.func35, Tryd.ntmps35
  go_wp2_with fail
  go_ret
  exact ⟨rfl, rfl⟩
theorem rusesCode_3 (w : World) : Calls Tryd.prog 35 #[.int .i64 3] w fun e w' => e = .returned (.bool false) ∧ w = w' := by
  go_enter Tryd.func35, Tryd.ntmps35
  go_wp2_with fail
  go_ret
  exact ⟨rfl, rfl⟩
theorem rusesCode_4 (w : World) : Calls Tryd.prog 35 #[.int .i64 4] w fun e w' => e = .returned (.bool false) ∧ w = w' := by
  go_enter Tryd.func35, Tryd.ntmps35
  go_wp2_with fail
  go_ret
  exact ⟨rfl, rfl⟩
theorem rusesCode_5 (w : World) : Calls Tryd.prog 35 #[.int .i64 5] w fun e w' => e = .returned (.bool false) ∧ w = w' := by
  go_enter Tryd.func35, Tryd.ntmps35
  go_wp2_with fail
  go_ret
  exact ⟨rfl, rfl⟩
theorem rusesCode_6 (w : World) : Calls Tryd.prog 35 #[.int .i64 6] w fun e w' => e = .returned (.bool false) ∧ w = w' := by
  go_enter Tryd.func35, Tryd.ntmps35
  go_wp2_with fail
  go_ret
  exact ⟨rfl, rfl⟩
theorem rusesCode_7 (w : World) : Calls Tryd.prog 35 #[.int .i64 7] w fun e w' => e = .returned (.bool false) ∧ w = w' := by
  go_enter Tryd.func35, Tryd.ntmps35
  go_wp2_with fail
  go_ret
  exact ⟨rfl, rfl⟩
theorem rusesCode_8 (w : World) : Calls Tryd.prog 35 #[.int .i64 8] w fun e w' => e = .returned (.bool false) ∧ w = w' := by
  go_enter Tryd.func35, Tryd.ntmps35
  go_wp2_with fail
  go_ret
  exact ⟨rfl, rfl⟩
theorem rusesCode_9 (w : World) : Calls Tryd.prog 35 #[.int .i64 9] w fun e w' => e = .returned (.bool false) ∧ w = w' := by
  go_enter Tryd.func35, Tryd.ntmps35
  go_wp2_with fail
  go_ret
  exact ⟨rfl, rfl⟩
theorem rusesCode_10 (w : World) : Calls Tryd.prog 35 #[.int .i64 10] w fun e w' => e = .returned (.bool true) ∧ w = w' := by
  go_enter Tryd.func35, Tryd.ntmps35
  go_wp2_with fail
  go_ret
  exact ⟨rfl, rfl⟩
theorem rusesCode_11 (w : World) : Calls Tryd.prog 35 #[.int .i64 11] w fun e w' => e = .returned (.bool true) ∧ w = w' := by
  go_enter Tryd.func35, Tryd.ntmps35
  go_wp2_with fail
  go_ret
  exact ⟨rfl, rfl⟩
theorem rcounted_1 (w : World) : Calls Tryd.prog 40 #[.int .i64 1] w fun e w' => e = .returned (.bool false) ∧ w = w' := by
  go_enter Tryd.func40, Tryd.ntmps40
  go_wp2_with fail
  go_ret
  exact ⟨rfl, rfl⟩
theorem rcounted_2 (w : World) : Calls Tryd.prog 40 #[.int .i64 2] w fun e w' => e = .returned (.bool false) ∧ w = w' := by
  go_enter Tryd.func40, Tryd.ntmps40
  go_wp2_with fail
  go_ret
  exact ⟨rfl, rfl⟩
theorem rcounted_3 (w : World) : Calls Tryd.prog 40 #[.int .i64 3] w fun e w' => e = .returned (.bool false) ∧ w = w' := by
  go_enter Tryd.func40, Tryd.ntmps40
  go_wp2_with fail
  go_ret
  exact ⟨rfl, rfl⟩
theorem rcounted_4 (w : World) : Calls Tryd.prog 40 #[.int .i64 4] w fun e w' => e = .returned (.bool false) ∧ w = w' := by
  go_enter Tryd.func40, Tryd.ntmps40
  go_wp2_with fail
  go_ret
  exact ⟨rfl, rfl⟩
theorem rcounted_5 (w : World) : Calls Tryd.prog 40 #[.int .i64 5] w fun e w' => e = .returned (.bool true) ∧ w = w' := by
  go_enter Tryd.func40, Tryd.ntmps40
  go_wp2_with fail
  go_ret
  exact ⟨rfl, rfl⟩
theorem rcounted_6 (w : World) : Calls Tryd.prog 40 #[.int .i64 6] w fun e w' => e = .returned (.bool true) ∧ w = w' := by
  go_enter Tryd.func40, Tryd.ntmps40
  go_wp2_with fail
  go_ret
  exact ⟨rfl, rfl⟩
theorem rcounted_7 (w : World) : Calls Tryd.prog 40 #[.int .i64 7] w fun e w' => e = .returned (.bool true) ∧ w = w' := by
  go_enter Tryd.func40, Tryd.ntmps40
  go_wp2_with fail
  go_ret
  exact ⟨rfl, rfl⟩
theorem rcounted_8 (w : World) : Calls Tryd.prog 40 #[.int .i64 8] w fun e w' => e = .returned (.bool false) ∧ w = w' := by
  go_enter Tryd.func40, Tryd.ntmps40
  go_wp2_with fail
  go_ret
  exact ⟨rfl, rfl⟩
theorem rcounted_9 (w : World) : Calls Tryd.prog 40 #[.int .i64 9] w fun e w' => e = .returned (.bool false) ∧ w = w' := by
  go_enter Tryd.func40, Tryd.ntmps40
  go_wp2_with fail
  go_ret
  exact ⟨rfl, rfl⟩
theorem rcounted_10 (w : World) : Calls Tryd.prog 40 #[.int .i64 10] w fun e w' => e = .returned (.bool false) ∧ w = w' := by
  go_enter Tryd.func40, Tryd.ntmps40
  go_wp2_with fail
  go_ret
  exact ⟨rfl, rfl⟩
theorem rcounted_11 (w : World) : Calls Tryd.prog 40 #[.int .i64 11] w fun e w' => e = .returned (.bool false) ∧ w = w' := by
  go_enter Tryd.func40, Tryd.ntmps40
  go_wp2_with fail
  go_ret
  exact ⟨rfl, rfl⟩
theorem rusesTx_1 (w : World) : Calls Tryd.prog 37 #[.int .i64 1] w fun e w' => e = .returned (.bool false) ∧ w = w' := by
  go_enter Tryd.func37, Tryd.ntmps37
  go_wp2_with fail
  go_ret
  exact ⟨rfl, rfl⟩
theorem rusesTx_2 (w : World) : Calls Tryd.prog 37 #[.int .i64 2] w fun e w' => e = .returned (.bool false) ∧ w = w' := by
  go_enter Tryd.func37, Tryd.ntmps37
  go_wp2_with fail
  go_ret
  exact ⟨rfl, rfl⟩
theorem rusesTx_3 (w : World) : Calls Tryd.prog 37 #[.int .i64 3] w fun e w' => e = .returned (.bool false) ∧ w = w' := by
  go_enter Tryd.func37, Tryd.ntmps37
  go_wp2_with fail
  go_ret
  exact ⟨rfl, rfl⟩
theorem rusesTx_4 (w : World) : Calls Tryd.prog 37 #[.int .i64 4] w fun e w' => e = .returned (.bool false) ∧ w = w' := by
  go_enter Tryd.func37, Tryd.ntmps37
  go_wp2_with fail
  go_ret
  exact ⟨rfl, rfl⟩
theorem rusesTx_5 (w : World) : Calls Tryd.prog 37 #[.int .i64 5] w fun e w' => e = .returned (.bool false) ∧ w = w' := by
  go_enter Tryd.func37, Tryd.ntmps37
  go_wp2_with fail
  go_ret
  exact ⟨rfl, rfl⟩
theorem rusesTx_6 (w : World) : Calls Tryd.prog 37 #[.int .i64 6] w fun e w' => e = .returned (.bool false) ∧ w = w' := by
  go_enter Tryd.func37, Tryd.ntmps37
  go_wp2_with fail
  go_ret
  exact ⟨rfl, rfl⟩
theorem rusesTx_7 (w : World) : Calls Tryd.prog 37 #[.int .i64 7] w fun e w' => e = .returned (.bool false) ∧ w = w' := by
  go_enter Tryd.func37, Tryd.ntmps37
  go_wp2_with fail
  go_ret
  exact ⟨rfl, rfl⟩
theorem rusesTx_8 (w : World) : Calls Tryd.prog 37 #[.int .i64 8] w fun e w' => e = .returned (.bool true) ∧ w = w' := by
  go_enter Tryd.func37, Tryd.ntmps37
  go_wp2_with fail
  go_ret
  exact ⟨rfl, rfl⟩
theorem rusesTx_9 (w : World) : Calls Tryd.prog 37 #[.int .i64 9] w fun e w' => e = .returned (.bool true) ∧ w = w' := by
  go_enter Tryd.func37, Tryd.ntmps37
  go_wp2_with fail
  go_ret
  exact ⟨rfl, rfl⟩
theorem rusesTx_10 (w : World) : Calls Tryd.prog 37 #[.int .i64 10] w fun e w' => e = .returned (.bool false) ∧ w = w' := by
  go_enter Tryd.func37, Tryd.ntmps37
  go_wp2_with fail
  go_ret
  exact ⟨rfl, rfl⟩
theorem rusesTx_11 (w : World) : Calls Tryd.prog 37 #[.int .i64 11] w fun e w' => e = .returned (.bool false) ∧ w = w' := by
  go_enter Tryd.func37, Tryd.ntmps37
  go_wp2_with fail
  go_ret
  exact ⟨rfl, rfl⟩
theorem rusesIds_1 (w : World) : Calls Tryd.prog 36 #[.int .i64 1] w fun e w' => e = .returned (.bool false) ∧ w = w' := by
  go_enter Tryd.func36, Tryd.ntmps36
  go_wp2_with fail
  refine (rcounted_1 w).mono ?_
  rintro e w1 ⟨rfl, rfl⟩
  go_wp2_with fail
  go_ret
  exact ⟨rfl, rfl⟩
theorem rusesIds_2 (w : World) : Calls Tryd.prog 36 #[.int .i64 2] w fun e w' => e = .returned (.bool false) ∧ w = w' := by
  go_enter Tryd.func36, Tryd.ntmps36
  go_wp2_with fail
  refine (rcounted_2 w).mono ?_
  rintro e w1 ⟨rfl, rfl⟩
  go_wp2_with fail
  go_ret
  exact ⟨rfl, rfl⟩
theorem rusesIds_3 (w : World) : Calls Tryd.prog 36 #[.int .i64 3] w fun e w' => e = .returned (.bool false) ∧ w = w' := by
  go_enter Tryd.func36, Tryd.ntmps36
  go_wp2_with fail
  refine (rcounted_3 w).mono ?_
  rintro e w1 ⟨rfl, rfl⟩
  go_wp2_with fail
  go_ret
  exact ⟨rfl, rfl⟩
theorem rusesIds_4 (w : World) : Calls Tryd.prog 36 #[.int .i64 4] w fun e w' => e = .returned (.bool false) ∧ w = w' := by
  go_enter Tryd.func36, Tryd.ntmps36
  go_wp2_with fail
  refine (rcounted_4 w).mono ?_
  rintro e w1 ⟨rfl, rfl⟩
  go_wp2_with fail
  go_ret
  exact ⟨rfl, rfl⟩
theorem rusesIds_5 (w : World) : Calls Tryd.prog 36 #[.int .i64 5] w fun e w' => e = .returned (.bool true) ∧ w = w' := by
  go_enter Tryd.func36, Tryd.ntmps36
  go_wp2_with fail
  refine (rcounted_5 w).mono ?_
  rintro e w1 ⟨rfl, rfl⟩
  go_wp2_with fail
  go_ret
  exact ⟨rfl, rfl⟩
theorem rusesIds_6 (w : World) : Calls Tryd.prog 36 #[.int .i64 6] w fun e w' => e = .returned (.bool true) ∧ w = w' := by
  go_enter Tryd.func36, Tryd.ntmps36
  go_wp2_with fail
  refine (rcounted_6 w).mono ?_
  rintro e w1 ⟨rfl, rfl⟩
  go_wp2_with fail
  go_ret
  exact ⟨rfl, rfl⟩
theorem rusesIds_7 (w : World) : Calls Tryd.prog 36 #[.int .i64 7] w fun e w' => e = .returned (.bool true) ∧ w = w' := by
  go_enter Tryd.func36, Tryd.ntmps36
  go_wp2_with fail
  refine (rcounted_7 w).mono ?_
  rintro e w1 ⟨rfl, rfl⟩
  go_wp2_with fail
  go_ret
  exact ⟨rfl, rfl⟩
theorem rusesIds_8 (w : World) : Calls Tryd.prog 36 #[.int .i64 8] w fun e w' => e = .returned (.bool false) ∧ w = w' := by
  go_enter Tryd.func36, Tryd.ntmps36
  go_wp2_with fail
  refine (rcounted_8 w).mono ?_
  rintro e w1 ⟨rfl, rfl⟩
  go_wp2_with fail
  go_ret
  exact ⟨rfl, rfl⟩
theorem rusesIds_9 (w : World) : Calls Tryd.prog 36 #[.int .i64 9] w fun e w' => e = .returned (.bool false) ∧ w = w' := by
  go_enter Tryd.func36, Tryd.ntmps36
  go_wp2_with fail
  refine (rcounted_9 w).mono ?_
  rintro e w1 ⟨rfl, rfl⟩
  go_wp2_with fail
  go_ret
  exact ⟨rfl, rfl⟩
theorem rusesIds_10 (w : World) : Calls Tryd.prog 36 #[.int .i64 10] w fun e w' => e = .returned (.bool true) ∧ w = w' := by
  go_enter Tryd.func36, Tryd.ntmps36
  go_wp2_with fail
  refine (rcounted_10 w).mono ?_
  rintro e w1 ⟨rfl, rfl⟩
  go_wp2_with fail
  go_ret
  exact ⟨rfl, rfl⟩
theorem rusesIds_11 (w : World) : Calls Tryd.prog 36 #[.int .i64 11] w fun e w' => e = .returned (.bool false) ∧ w = w' := by
  go_enter Tryd.func36, Tryd.ntmps36
  go_wp2_with fail
  refine (rcounted_11 w).mono ?_
  rintro e w1 ⟨rfl, rfl⟩
  go_wp2_with fail
  go_ret
  exact ⟨rfl, rfl⟩
theorem num8_any (x n : Nat) (hx : U64 x) (hn : n = 1 ∨ n = 2 ∨ n = 4 ∨ n = 8) (hf : x < 256 ^ n) (w : World) :
    Calls Tryd.prog 39 #[.int .u64 (x : Int), .int .i64 (n : Int)] w fun r w' => ∃ v, r = .returned v ∧ OwnB w' w.heap.size v (Oct.le x n) ∧ Below w.heap.size w w' := by
  have HP := Lib.hid (rput_yes x n hx hn w)
  have HF := Lib.hid hf
  clear hx hn hf
  go_enter Tryd.func39, Tryd.ntmps39
  go_wp2_with fail
  refine HP.out.mono ?_
  rintro e w1 ⟨v, er, rfl, _, h2, hb⟩
  obtain ⟨ho, rfl⟩ := h2 HF.out
  have HO := Lib.hid ho
  have HB := Lib.hid hb
  clear h2 ho hb
  go_wp2_with fail
  go_ret
  exact ⟨v, rfl, HO.out, HB.out⟩
theorem bare_any (t : Txs.Tx) (A1 A2 : Option Addr) (c1 c2 : Nat) (w : World) : Calls Tryd.prog 38 #[.agg #[.int .u32 (t.version : Int), .slice A1 t.ins.length c1, .slice A2 t.outs.length c2]] w fun e w' => e = .returned (.bool (decide (t = Txs.none))) ∧ Below w.heap.size w w' := by
  have hd : decide (t = Txs.none) = (decide (t.version = 0) && (decide (t.ins.length = 0) && decide (t.outs.length = 0))) := by
    cases t
    simp [Txs.none]
  rw [hd]
  generalize t.version = ver
  generalize t.ins.length = ni
  generalize t.outs.length = no
  clear hd
  have e1 : ((ver : Int) == 0) = decide (ver = 0) := by by_cases h : ver = 0 <;> simp [h]
  have e2 : ((ni : Int) == 0) = decide (ni = 0) := by by_cases h : ni = 0 <;> simp [h]
  have e3 : ((no : Int) == 0) = decide (no = 0) := by by_cases h : no = 0 <;> simp [h]
  generalize decide (ver = 0) = b1 at *
  generalize decide (ni = 0) = b2 at *
  generalize decide (no = 0) = b3 at *
  have HB := Lib.hid (Joins.below_alloc1 w (.cells #[.int .u32 (ver : Int), .slice A1 ni c1, .slice A2 no c2] 28))
  cases b1 <;> cases b2 <;> cases b3
  all_goals
    go_enter Tryd.func38, Tryd.ntmps38
    go_wp2_with fail
    go_ret
    exact ⟨rfl, HB.out⟩
end Go.Proofs.YtanjlgkbjcienaaDoor.M8
/- The document's Put of a message. -/
namespace Go.Proofs.YtanjlgkbjcienaaDoor.M8
open Go.RowKit Go.Deep T7
set_option linter.unusedVariables false
set_option linter.unusedSimpArgs false
set_option maxRecDepth 100000
attribute [local go_sem ↓] Go.wp_at_zero Go.wp_at_succ

set_option maxHeartbeats 8000000 in
theorem rput8_1 (mn mc : Nat) (ids : List (List UInt8)) (t : Txs.Tx) (A A1 A2 : Option Addr) (c c1 c2 B : Nat) (w : World) (h : MsgAt w B ⟨1, mn, mc, ids, t⟩ A c A1 c1 A2 c2) (hB : B ≤ w.heap.size) :
    Calls Tryd.prog 14 #[msgV ⟨1, mn, mc, ids, t⟩ A c A1 c1 A2 c2] w fun e w' => PutOut w w' (Msgs.put ⟨1, mn, mc, ids, t⟩) e := by
  have hok := h.ok
  have hmn : mn < 18446744073709551616 := hok.n
  have hmc : mc < 4294967296 := hok.code
  have hs : Msgs.shp 1 = Msgs.shN 1 := rfl
  have hkn : Msgs.known 1 = true := rfl
  have HOKI := Lib.hid hok.ids
  have HI := Lib.hid h.ids
  have HE3 := Lib.hid (show (ids ≠ []) → Msgs.put ⟨1, mn, mc, ids, t⟩ = ([], [], 2) from by
    intro  g
    simp [Msgs.put, Msgs.errOf, Msgs.misfit, hs, hkn, Msgs.shN, Msgs.body, Oct.le, g])
  have HE4 := Lib.hid (show (t ≠ Txs.none) → Msgs.put ⟨1, mn, mc, ids, t⟩ = ([], [], 2) from by
    intro  g
    simp [Msgs.put, Msgs.errOf, Msgs.misfit, hs, hkn, Msgs.shN, Msgs.body, Oct.le, g])
  have HF := Lib.hid (show (ids = []) → (t = Txs.none) → Msgs.put ⟨1, mn, mc, ids, t⟩ = ((Msgs.shp 1).cmd, (Oct.le mc 4 ++ Oct.le mn 8) ++ ids.flatten, 0) from by
    intro g0 g1
    have e0 : Msgs.errOf ⟨1, mn, mc, ids, t⟩ = 0 := by simp [Msgs.errOf, Msgs.misfit, hs, hkn, Msgs.shN, g0, g1] <;> omega
    unfold Msgs.put
    rw [if_neg (by simp [e0]), if_neg (by simp [hs, Msgs.shN])]
    simp [Msgs.body, hs, Msgs.shN, g0, g1])
  have HTX2 := Lib.hid (fun W (hb : Below w.heap.size w W) => show TxAt W w.heap.size t A1 c1 A2 c2 from (h.tx.below (hb.mono hB)).mono hB)
  have HOKT := Lib.hid hok.tx
  have HNAME := Lib.hid (fun W => name_yes 1 hkn W)
  obtain ⟨str, hstr⟩ : ∃ str, str = (⟨(Msgs.shp 1).cmd.toArray⟩ : ByteArray) := ⟨_, rfl⟩
  have hne : str.toList.isEmpty = false := by rw [str_empty, hstr]; decide
  rw [← hstr] at HNAME
  have HSTR := Lib.hid hstr
  obtain ⟨w1, ms, hms, hv, hms7, hw1, hb1, hz1, hk1⟩ := msg_box w ⟨1, mn, mc, ids, t⟩ A A1 A2 c c1 c2
  have HB1 := Lib.hid hb1
  have HK1 := Lib.hid hk1
  rw [hv]
  rw [hms] at hw1
  simp only at hw1
  obtain ⟨n, hn⟩ : ∃ n, n = ids.length := ⟨_, rfl⟩
  rw [← hn] at hms hw1
  have HMS := Lib.hid hms
  have HN := Lib.hid hn
  rw [hms]
  have hz1' : w.heap.size + 1 ≤ w1.heap.size := by omega
  clear hn hms hms7 hb1 hk1 hz1 hv hstr h hok hs hkn
  obtain ⟨i0, hi, hz0, hz1, hz2⟩ := info_parts byte_info
  have Hi := Lib.hid hi
  have Hz := Lib.hid hz0
  have Hz1 := Lib.hid hz1
  have Hz2 := Lib.hid hz2
  clear hi hz0 hz1 hz2
  obtain ⟨zs, hzs⟩ : ∃ zs, zs = bytesArr (List.replicate 32 (0 : UInt8)) := ⟨_, rfl⟩
  have HZH := Lib.hid (show (Tryd.prog.info? 49).map (·.zero) = some (some (.agg zs)) by rw [hzs]; exact zero_hash)
  have HZHL := Lib.hid (show zs.size = 32 by rw [hzs]; simp [bytesArr])
  clear hzs
  go_enter Tryd.func14, Tryd.ntmps14
  go_upto_region 1 with (fail)
  rw [← hw1]
  clear hw1
  have m0 : w1.cell? ⟨w.heap.size, 0, none⟩ = some (.int .i64 1) := by rw [HK1.out.cell, HMS.out]; rfl
  have m1 : w1.cell? ⟨w.heap.size, 1, none⟩ = some (.int .u64 (mn : Int)) := by rw [HK1.out.cell, HMS.out]; rfl
  have m2 : w1.cell? ⟨w.heap.size, 2, none⟩ = some (.int .u32 (mc : Int)) := by rw [HK1.out.cell, HMS.out]; rfl
  have m3 : w1.cell? ⟨w.heap.size, 3, none⟩ = some (.slice A n c) := by rw [HK1.out.cell, HMS.out]; rfl
  have m4 : w1.cell? ⟨w.heap.size, 4, none⟩ = some (.int .u32 (t.version : Int)) := by rw [HK1.out.cell, HMS.out]; rfl
  have m5 : w1.cell? ⟨w.heap.size, 5, none⟩ = some (.slice A1 t.ins.length c1) := by rw [HK1.out.cell, HMS.out]; rfl
  have m6 : w1.cell? ⟨w.heap.size, 6, none⟩ = some (.slice A2 t.outs.length c2) := by rw [HK1.out.cell, HMS.out]; rfl
  go_wp2_with fail
  refine (HNAME.out w1).mono ?_
  rintro e wq ⟨rfl, rfl⟩
  go_wp2_with fail
  refine (rusesN_1 w1).mono ?_
  rintro e wq ⟨rfl, rfl⟩
  go_wp2_with fail
  refine (rusesCode_1 w1).mono ?_
  rintro e wq ⟨rfl, rfl⟩
  go_wp2_with fail
  refine (rusesIds_1 w1).mono ?_
  rintro e wq ⟨rfl, rfl⟩
  by_cases h3 : n = 0
  rotate_left
  focus
    have e3 : (0 : Int) < (n : Int) := by omega
    have e3n : 0 < n := by omega
    have H3 := Lib.hid (show ids ≠ [] from fun e => h3 (by rw [HN.out, e]; rfl))
    clear h3
    go_wp2_with fail
    go_ret3
    rw [HE3.out H3.out]
    exact ⟨.slice none 0 0, rfl, own_nil _ _, HB1.out⟩
  have H3 := Lib.hid (show ids = [] from List.length_eq_zero_iff.1 (HN.out.symm.trans h3))
  have e3 : ¬ (0 : Int) < (n : Int) := by omega
  have e3n : ¬ 0 < n := by omega
  clear h3
  go_wp2_with fail
  refine (rusesTx_1 w1).mono ?_
  rintro e wq ⟨rfl, rfl⟩
  go_wp2_with fail
  refine (bare_any t A1 A2 c1 c2 w1).mono ?_
  rintro e w2 ⟨rfl, hb2⟩
  have HB2 := Lib.hid (HB1.out.trans (hb2.mono HB1.out.size))
  have HK2 := Lib.hid (HK1.out.below hb2 HK1.out.lt)
  have hz2 : w.heap.size + 1 ≤ w2.heap.size := by have := hb2.size; omega
  clear hb2
  clear m0 m1 m2 m3 m4 m5 m6
  have m0 : w2.cell? ⟨w.heap.size, 0, none⟩ = some (.int .i64 1) := by rw [HK2.out.cell, HMS.out]; rfl
  have m1 : w2.cell? ⟨w.heap.size, 1, none⟩ = some (.int .u64 (mn : Int)) := by rw [HK2.out.cell, HMS.out]; rfl
  have m2 : w2.cell? ⟨w.heap.size, 2, none⟩ = some (.int .u32 (mc : Int)) := by rw [HK2.out.cell, HMS.out]; rfl
  have m3 : w2.cell? ⟨w.heap.size, 3, none⟩ = some (.slice A n c) := by rw [HK2.out.cell, HMS.out]; rfl
  have m4 : w2.cell? ⟨w.heap.size, 4, none⟩ = some (.int .u32 (t.version : Int)) := by rw [HK2.out.cell, HMS.out]; rfl
  have m5 : w2.cell? ⟨w.heap.size, 5, none⟩ = some (.slice A1 t.ins.length c1) := by rw [HK2.out.cell, HMS.out]; rfl
  have m6 : w2.cell? ⟨w.heap.size, 6, none⟩ = some (.slice A2 t.outs.length c2) := by rw [HK2.out.cell, HMS.out]; rfl
  by_cases h4 : t = Txs.none
  rotate_left
  focus
    rw [decide_eq_false h4]
    have H4 := Lib.hid h4
    clear h4
    go_wp2_with fail
    go_ret3
    rw [HE4.out H4.out]
    exact ⟨.slice none 0 0, rfl, own_nil _ _, HB2.out⟩
  rw [decide_eq_true h4]
  have H4 := Lib.hid h4
  clear h4
  go_wp2_with fail
  refine (rusesIds_1 w2).mono ?_
  rintro e wq ⟨rfl, rfl⟩
  have e6 : ¬ (32 : Int) < (n : Int) := by omega
  have hn32 : n ≤ 32 := by omega
  go_wp2_with fail
  refine (num8_any mc 4 (by unfold U64; omega) (by decide) (by omega) w2).mono ?_
  rintro e w3a ⟨v3, rfl, ho3, hb3⟩
  obtain ⟨A3, c3, rfl, _, hm3, hat3, _⟩ := OwnB.at_ ho3
  have HSRC3 := Lib.hid (BytesAt.src hat3)
  have HL3a := Lib.hid (Oct.le_length mc 4)
  have HB3a := Lib.hid hb3
  have hz3a := hb3.size
  clear ho3 hat3 hb3
  rw [HL3a.out]
  go_upto_region 16 with (at_builtin; refine wpList_app _ rfl (.tmp 92) (.tmp 96) _ rfl w2.heap.size 5 i0 _ 1 1 Tryd.underlying33 Hi.out Hz.out Hz1.out Hz2.out rfl (by decide) (.slice none 0 0) ([] : List UInt8).length (([] : List UInt8).map byteV) rfl (own_nil _ _) A3 4 c3 ((Oct.le mc 4).map byteV) rfl (by rw [List.length_map, HL3a.out]) HSRC3.out (oneCell_bytes _) (by simp [maxLen]) (by simp) (by exact hz3a) ?_; intro v4a w4a hrow4 hg4 hat4)
  have HO4a := Lib.hid (show OwnB w4a w2.heap.size v4a (Oct.le mc 4) by
    have := own_app (bs := []) hrow4 rfl HL3a.out.symm
    rwa [List.nil_append] at this)
  have HG4a := Lib.hid (show Grw w2 w4a (.slice none 0 0) v4a from (Grw.of_below HB3a.out _).trans (Grw.of_app hg4 hat4))
  clear hrow4 hg4 hat4 HSRC3 m0 m1 m2 m3 m4 m5 m6
  have HK4a := Lib.hid (HG4a.out.bk HK2.out (by simp [Value.ownBlock]))
  have hz4a := HG4a.out.kp.size
  have m0 : w4a.cell? ⟨w.heap.size, 0, none⟩ = some (.int .i64 1) := by rw [HK4a.out.1.cell, HMS.out]; rfl
  have m1 : w4a.cell? ⟨w.heap.size, 1, none⟩ = some (.int .u64 (mn : Int)) := by rw [HK4a.out.1.cell, HMS.out]; rfl
  have m2 : w4a.cell? ⟨w.heap.size, 2, none⟩ = some (.int .u32 (mc : Int)) := by rw [HK4a.out.1.cell, HMS.out]; rfl
  have m3 : w4a.cell? ⟨w.heap.size, 3, none⟩ = some (.slice A n c) := by rw [HK4a.out.1.cell, HMS.out]; rfl
  have m4 : w4a.cell? ⟨w.heap.size, 4, none⟩ = some (.int .u32 (t.version : Int)) := by rw [HK4a.out.1.cell, HMS.out]; rfl
  have m5 : w4a.cell? ⟨w.heap.size, 5, none⟩ = some (.slice A1 t.ins.length c1) := by rw [HK4a.out.1.cell, HMS.out]; rfl
  have m6 : w4a.cell? ⟨w.heap.size, 6, none⟩ = some (.slice A2 t.outs.length c2) := by rw [HK4a.out.1.cell, HMS.out]; rfl
  go_wp2_with fail
  refine (rusesN_1 w4a).mono ?_
  rintro e wq ⟨rfl, rfl⟩
  go_wp2_with fail
  refine (num8_any mn 8 (by unfold U64; omega) (by decide) (by omega) w4a).mono ?_
  rintro e w3b ⟨v3, rfl, ho3, hb3⟩
  obtain ⟨A3, c3, rfl, _, hm3, hat3, _⟩ := OwnB.at_ ho3
  have HSRC3 := Lib.hid (BytesAt.src hat3)
  have HL3b := Lib.hid (Oct.le_length mn 8)
  have HB3b := Lib.hid hb3
  have hz3b := hb3.size
  clear ho3 hat3 hb3
  rw [HL3b.out]
  have hl4 := Oct.le_length mc 4
  have HO4m := Lib.hid (own_below HO4a.out HB3b.out)
  go_upto_region 18 with (at_builtin; refine wpList_app _ rfl (.tmp 100) (.tmp 103) _ rfl w2.heap.size 5 i0 _ 1 1 Tryd.underlying33 Hi.out Hz.out Hz1.out Hz2.out rfl (by decide) v4a (Oct.le mc 4).length ((Oct.le mc 4).map byteV) rfl HO4m.out A3 8 c3 ((Oct.le mn 8).map byteV) rfl (by rw [List.length_map, HL3b.out]) HSRC3.out (oneCell_bytes _) (by rw [Oct.le_length]; simp [maxLen]) (by omega) (by omega) ?_; intro v4b w4b hrow4 hg4 hat4)
  have HO4b := Lib.hid (own_app hrow4 rfl HL3b.out.symm)
  have HG4b := Lib.hid (show Grw w2 w4b (.slice none 0 0) v4b from HG4a.out.trans ((Grw.of_below HB3b.out _).trans (Grw.of_app hg4 hat4)))
  clear hrow4 hg4 hat4 HSRC3 m0 m1 m2 m3 m4 m5 m6
  have HK4b := Lib.hid (HG4b.out.bk HK2.out (by simp [Value.ownBlock]))
  have hz4b := HG4b.out.kp.size
  have m0 : w4b.cell? ⟨w.heap.size, 0, none⟩ = some (.int .i64 1) := by rw [HK4b.out.1.cell, HMS.out]; rfl
  have m1 : w4b.cell? ⟨w.heap.size, 1, none⟩ = some (.int .u64 (mn : Int)) := by rw [HK4b.out.1.cell, HMS.out]; rfl
  have m2 : w4b.cell? ⟨w.heap.size, 2, none⟩ = some (.int .u32 (mc : Int)) := by rw [HK4b.out.1.cell, HMS.out]; rfl
  have m3 : w4b.cell? ⟨w.heap.size, 3, none⟩ = some (.slice A n c) := by rw [HK4b.out.1.cell, HMS.out]; rfl
  have m4 : w4b.cell? ⟨w.heap.size, 4, none⟩ = some (.int .u32 (t.version : Int)) := by rw [HK4b.out.1.cell, HMS.out]; rfl
  have m5 : w4b.cell? ⟨w.heap.size, 5, none⟩ = some (.slice A1 t.ins.length c1) := by rw [HK4b.out.1.cell, HMS.out]; rfl
  have m6 : w4b.cell? ⟨w.heap.size, 6, none⟩ = some (.slice A2 t.outs.length c2) := by rw [HK4b.out.1.cell, HMS.out]; rfl
  obtain ⟨w4, hw4⟩ : ∃ w4, w4 = w4b := ⟨_, rfl⟩
  obtain ⟨v4, hv4⟩ : ∃ v4, v4 = v4b := ⟨_, rfl⟩
  obtain ⟨pre, hpre⟩ : ∃ pre, pre = Oct.le mc 4 ++ Oct.le mn 8 := ⟨_, rfl⟩
  have HO4 := HO4b
  have HG4 := HG4b
  have HK4 := HK4b
  rw [← hpre] at HO4
  have HPL : Hid (pre.length ≤ 12) := Lib.hid (by rw [hpre]; simp [Oct.le_length])
  rw [← hw4, ← hv4] at HO4 HG4
  rw [← hw4] at HK4 m0 m1 m2 m3 m4 m5 m6 ⊢
  rw [← hv4]
  have HPRE := Lib.hid hpre
  clear hpre hw4 hv4
  go_wp2_with fail
  refine (rcounted_1 w4).mono ?_
  rintro e wq ⟨rfl, rfl⟩
  have hz4 := HG4.out.kp.size
  have HI2 := Lib.hid (show HashesAt w2 B A ids from At.below HI.out (HB2.out.mono hB))
  have hB2 : B ≤ w2.heap.size := by omega
  have hn32' : ids.length ≤ 32 := by rw [← HN.out]; exact hn32
  have HFL := Lib.hid (fun k => flat_take_le ids k HOKI.out hn32')
  clear hn32'
  go_wp2_with fail
  go_loopw [7, 117] (fun v i wr => ∃ k : Nat, k ≤ n ∧ i = .int .i64 (k : Int) ∧ Hid (OwnB wr w2.heap.size v (pre ++ (ids.take k).flatten)) ∧ Hid (Grw w2 wr (.slice none 0 0) v)) (fun _ i _ => n - (intOf i).toNat)
  case atStart => exact ⟨0, Nat.zero_le _, rfl, Lib.hid (by simpa using HO4.out), HG4⟩
  case round =>
    obtain ⟨k, hk, rfl, hob, hgr⟩ := hrel
    have HBL := Lib.hid (hgr.out.below (own_nil w2 w2.heap.size) (Nat.le_refl _) (Nat.le_refl _))
    by_cases hlt : k < n
    · exfalso; omega
    · have hkn : k = n := by omega
      have HTK := Lib.hid (show ids.take k = ids from List.take_of_length_le (by rw [hkn, HN.out]; exact Nat.le_refl _))
      have hob' := hob.out
      rw [HTK.out] at hob'
      obtain ⟨P, hP⟩ : ∃ P, P = pre ++ ids.flatten := ⟨_, rfl⟩
      rw [← hP] at hob'
      have HPP := Lib.hid hP
      have HOB := Lib.hid hob'
      have hpl : P.length ≤ 1036 := by
        rw [hP, List.length_append]
        have h1 := HFL.out n
        rw [← hkn, HTK.out] at h1
        have := HPL.out
        omega
      have HGR := hgr
      clear hkn hP hob' hob HTK HO4 HG4 HK4 hgr m0 m1 m2 m3 m4 m5 m6
      have HKR := Lib.hid (HGR.out.bk HK2.out (by simp [Value.ownBlock]))
      have HBR := Lib.hid (HB2.out.trans (HBL.out.mono HB2.out.size))
      have hws := HGR.out.kp.size
      have m0 : wr.cell? ⟨w.heap.size, 0, none⟩ = some (.int .i64 1) := by rw [HKR.out.1.cell, HMS.out]; rfl
      have m1 : wr.cell? ⟨w.heap.size, 1, none⟩ = some (.int .u64 (mn : Int)) := by rw [HKR.out.1.cell, HMS.out]; rfl
      have m2 : wr.cell? ⟨w.heap.size, 2, none⟩ = some (.int .u32 (mc : Int)) := by rw [HKR.out.1.cell, HMS.out]; rfl
      have m3 : wr.cell? ⟨w.heap.size, 3, none⟩ = some (.slice A n c) := by rw [HKR.out.1.cell, HMS.out]; rfl
      have m4 : wr.cell? ⟨w.heap.size, 4, none⟩ = some (.int .u32 (t.version : Int)) := by rw [HKR.out.1.cell, HMS.out]; rfl
      have m5 : wr.cell? ⟨w.heap.size, 5, none⟩ = some (.slice A1 t.ins.length c1) := by rw [HKR.out.1.cell, HMS.out]; rfl
      have m6 : wr.cell? ⟨w.heap.size, 6, none⟩ = some (.slice A2 t.outs.length c2) := by rw [HKR.out.1.cell, HMS.out]; rfl
      go_wp2_with fail
      refine (rusesTx_1 wr).mono ?_
      rintro e wq ⟨rfl, rfl⟩
      go_wp2_with fail
      refine (HNAME.out wr).mono ?_
      rintro e wq ⟨rfl, rfl⟩
      go_wp2_with fail
      go_ret3
      rw [HF.out H3.out H4.out]
      exact ⟨u7, by rw [← HSTR.out]; rfl, (by have := own_mono HOB.out HB2.out.size; rw [HPP.out, HPRE.out] at this; exact this), HBR.out⟩
set_option maxHeartbeats 8000000 in
theorem rput8_2 (mn mc : Nat) (ids : List (List UInt8)) (t : Txs.Tx) (A A1 A2 : Option Addr) (c c1 c2 B : Nat) (w : World) (h : MsgAt w B ⟨2, mn, mc, ids, t⟩ A c A1 c1 A2 c2) (hB : B ≤ w.heap.size) :
    Calls Tryd.prog 14 #[msgV ⟨2, mn, mc, ids, t⟩ A c A1 c1 A2 c2] w fun e w' => PutOut w w' (Msgs.put ⟨2, mn, mc, ids, t⟩) e := by
  have hok := h.ok
  have hmn : mn < 18446744073709551616 := hok.n
  have hmc : mc < 4294967296 := hok.code
  have hs : Msgs.shp 2 = Msgs.shN 2 := rfl
  have hkn : Msgs.known 2 = true := rfl
  have HOKI := Lib.hid hok.ids
  have HI := Lib.hid h.ids
  have HE1 := Lib.hid (show (mn ≠ 0) → Msgs.put ⟨2, mn, mc, ids, t⟩ = ([], [], 2) from by
    intro  g
    simp [Msgs.put, Msgs.errOf, Msgs.misfit, hs, hkn, Msgs.shN, Msgs.body, Oct.le, g])
  have HE2 := Lib.hid (show (mc ≠ 0) → Msgs.put ⟨2, mn, mc, ids, t⟩ = ([], [], 2) from by
    intro  g
    simp [Msgs.put, Msgs.errOf, Msgs.misfit, hs, hkn, Msgs.shN, Msgs.body, Oct.le, g])
  have HE3 := Lib.hid (show (ids ≠ []) → Msgs.put ⟨2, mn, mc, ids, t⟩ = ([], [], 2) from by
    intro  g
    simp [Msgs.put, Msgs.errOf, Msgs.misfit, hs, hkn, Msgs.shN, Msgs.body, Oct.le, g])
  have HE4 := Lib.hid (show (t ≠ Txs.none) → Msgs.put ⟨2, mn, mc, ids, t⟩ = ([], [], 2) from by
    intro  g
    simp [Msgs.put, Msgs.errOf, Msgs.misfit, hs, hkn, Msgs.shN, Msgs.body, Oct.le, g])
  have HF := Lib.hid (show (mn = 0) → (mc = 0) → (ids = []) → (t = Txs.none) → Msgs.put ⟨2, mn, mc, ids, t⟩ = ((Msgs.shp 2).cmd, (([] : List UInt8)) ++ ids.flatten, 0) from by
    intro g0 g1 g2 g3
    have e0 : Msgs.errOf ⟨2, mn, mc, ids, t⟩ = 0 := by simp [Msgs.errOf, Msgs.misfit, hs, hkn, Msgs.shN, g0, g1, g2, g3]
    unfold Msgs.put
    rw [if_neg (by simp [e0]), if_neg (by simp [hs, Msgs.shN])]
    simp [Msgs.body, hs, Msgs.shN, g0, g1, g2, g3, Oct.le])
  have HTX2 := Lib.hid (fun W (hb : Below w.heap.size w W) => show TxAt W w.heap.size t A1 c1 A2 c2 from (h.tx.below (hb.mono hB)).mono hB)
  have HOKT := Lib.hid hok.tx
  have HNAME := Lib.hid (fun W => name_yes 2 hkn W)
  obtain ⟨str, hstr⟩ : ∃ str, str = (⟨(Msgs.shp 2).cmd.toArray⟩ : ByteArray) := ⟨_, rfl⟩
  have hne : str.toList.isEmpty = false := by rw [str_empty, hstr]; decide
  rw [← hstr] at HNAME
  have HSTR := Lib.hid hstr
  obtain ⟨w1, ms, hms, hv, hms7, hw1, hb1, hz1, hk1⟩ := msg_box w ⟨2, mn, mc, ids, t⟩ A A1 A2 c c1 c2
  have HB1 := Lib.hid hb1
  have HK1 := Lib.hid hk1
  rw [hv]
  rw [hms] at hw1
  simp only at hw1
  obtain ⟨n, hn⟩ : ∃ n, n = ids.length := ⟨_, rfl⟩
  rw [← hn] at hms hw1
  have HMS := Lib.hid hms
  have HN := Lib.hid hn
  rw [hms]
  have hz1' : w.heap.size + 1 ≤ w1.heap.size := by omega
  clear hn hms hms7 hb1 hk1 hz1 hv hstr h hok hs hkn
  obtain ⟨i0, hi, hz0, hz1, hz2⟩ := info_parts byte_info
  have Hi := Lib.hid hi
  have Hz := Lib.hid hz0
  have Hz1 := Lib.hid hz1
  have Hz2 := Lib.hid hz2
  clear hi hz0 hz1 hz2
  obtain ⟨zs, hzs⟩ : ∃ zs, zs = bytesArr (List.replicate 32 (0 : UInt8)) := ⟨_, rfl⟩
  have HZH := Lib.hid (show (Tryd.prog.info? 49).map (·.zero) = some (some (.agg zs)) by rw [hzs]; exact zero_hash)
  have HZHL := Lib.hid (show zs.size = 32 by rw [hzs]; simp [bytesArr])
  clear hzs
  go_enter Tryd.func14, Tryd.ntmps14
  go_upto_region 1 with (fail)
  rw [← hw1]
  clear hw1
  have m0 : w1.cell? ⟨w.heap.size, 0, none⟩ = some (.int .i64 2) := by rw [HK1.out.cell, HMS.out]; rfl
  have m1 : w1.cell? ⟨w.heap.size, 1, none⟩ = some (.int .u64 (mn : Int)) := by rw [HK1.out.cell, HMS.out]; rfl
  have m2 : w1.cell? ⟨w.heap.size, 2, none⟩ = some (.int .u32 (mc : Int)) := by rw [HK1.out.cell, HMS.out]; rfl
  have m3 : w1.cell? ⟨w.heap.size, 3, none⟩ = some (.slice A n c) := by rw [HK1.out.cell, HMS.out]; rfl
  have m4 : w1.cell? ⟨w.heap.size, 4, none⟩ = some (.int .u32 (t.version : Int)) := by rw [HK1.out.cell, HMS.out]; rfl
  have m5 : w1.cell? ⟨w.heap.size, 5, none⟩ = some (.slice A1 t.ins.length c1) := by rw [HK1.out.cell, HMS.out]; rfl
  have m6 : w1.cell? ⟨w.heap.size, 6, none⟩ = some (.slice A2 t.outs.length c2) := by rw [HK1.out.cell, HMS.out]; rfl
  go_wp2_with fail
  refine (HNAME.out w1).mono ?_
  rintro e wq ⟨rfl, rfl⟩
  go_wp2_with fail
  refine (rusesN_2 w1).mono ?_
  rintro e wq ⟨rfl, rfl⟩
  by_cases h1 : mn = 0
  rotate_left
  focus
    have e1 : ((mn : Int) != 0) = true := by rw [bne_iff_ne]; omega
    have H1 := Lib.hid h1
    clear h1
    go_wp2_with fail
    go_ret3
    rw [HE1.out H1.out]
    exact ⟨.slice none 0 0, rfl, own_nil _ _, HB1.out⟩
  have e1 : ((mn : Int) != 0) = false := by rw [h1]; rfl
  have H1 := Lib.hid h1
  clear h1
  go_wp2_with fail
  refine (rusesCode_2 w1).mono ?_
  rintro e wq ⟨rfl, rfl⟩
  clear e1
  by_cases h2 : mc = 0
  rotate_left
  focus
    have e2 : ((mc : Int) != 0) = true := by rw [bne_iff_ne]; omega
    have H2 := Lib.hid h2
    clear h2
    go_wp2_with fail
    go_ret3
    rw [HE2.out H2.out]
    exact ⟨.slice none 0 0, rfl, own_nil _ _, HB1.out⟩
  have e2 : ((mc : Int) != 0) = false := by rw [h2]; rfl
  have H2 := Lib.hid h2
  clear h2
  go_wp2_with fail
  refine (rusesIds_2 w1).mono ?_
  rintro e wq ⟨rfl, rfl⟩
  clear e2
  by_cases h3 : n = 0
  rotate_left
  focus
    have e3 : (0 : Int) < (n : Int) := by omega
    have e3n : 0 < n := by omega
    have H3 := Lib.hid (show ids ≠ [] from fun e => h3 (by rw [HN.out, e]; rfl))
    clear h3
    go_wp2_with fail
    go_ret3
    rw [HE3.out H3.out]
    exact ⟨.slice none 0 0, rfl, own_nil _ _, HB1.out⟩
  have H3 := Lib.hid (show ids = [] from List.length_eq_zero_iff.1 (HN.out.symm.trans h3))
  have e3 : ¬ (0 : Int) < (n : Int) := by omega
  have e3n : ¬ 0 < n := by omega
  clear h3
  go_wp2_with fail
  refine (rusesTx_2 w1).mono ?_
  rintro e wq ⟨rfl, rfl⟩
  go_wp2_with fail
  refine (bare_any t A1 A2 c1 c2 w1).mono ?_
  rintro e w2 ⟨rfl, hb2⟩
  have HB2 := Lib.hid (HB1.out.trans (hb2.mono HB1.out.size))
  have HK2 := Lib.hid (HK1.out.below hb2 HK1.out.lt)
  have hz2 : w.heap.size + 1 ≤ w2.heap.size := by have := hb2.size; omega
  clear hb2
  clear m0 m1 m2 m3 m4 m5 m6
  have m0 : w2.cell? ⟨w.heap.size, 0, none⟩ = some (.int .i64 2) := by rw [HK2.out.cell, HMS.out]; rfl
  have m1 : w2.cell? ⟨w.heap.size, 1, none⟩ = some (.int .u64 (mn : Int)) := by rw [HK2.out.cell, HMS.out]; rfl
  have m2 : w2.cell? ⟨w.heap.size, 2, none⟩ = some (.int .u32 (mc : Int)) := by rw [HK2.out.cell, HMS.out]; rfl
  have m3 : w2.cell? ⟨w.heap.size, 3, none⟩ = some (.slice A n c) := by rw [HK2.out.cell, HMS.out]; rfl
  have m4 : w2.cell? ⟨w.heap.size, 4, none⟩ = some (.int .u32 (t.version : Int)) := by rw [HK2.out.cell, HMS.out]; rfl
  have m5 : w2.cell? ⟨w.heap.size, 5, none⟩ = some (.slice A1 t.ins.length c1) := by rw [HK2.out.cell, HMS.out]; rfl
  have m6 : w2.cell? ⟨w.heap.size, 6, none⟩ = some (.slice A2 t.outs.length c2) := by rw [HK2.out.cell, HMS.out]; rfl
  by_cases h4 : t = Txs.none
  rotate_left
  focus
    rw [decide_eq_false h4]
    have H4 := Lib.hid h4
    clear h4
    go_wp2_with fail
    go_ret3
    rw [HE4.out H4.out]
    exact ⟨.slice none 0 0, rfl, own_nil _ _, HB2.out⟩
  rw [decide_eq_true h4]
  have H4 := Lib.hid h4
  clear h4
  go_wp2_with fail
  refine (rusesIds_2 w2).mono ?_
  rintro e wq ⟨rfl, rfl⟩
  have e6 : ¬ (32 : Int) < (n : Int) := by omega
  have hn32 : n ≤ 32 := by omega
  obtain ⟨v4, hv4⟩ : ∃ v4 : Value, v4 = .slice none 0 0 := ⟨_, rfl⟩
  obtain ⟨w4, hw4⟩ : ∃ w4 : World, w4 = w2 := ⟨_, rfl⟩
  obtain ⟨pre, hpre⟩ : ∃ pre : List UInt8, pre = [] := ⟨_, rfl⟩
  have HO4 := Lib.hid (show OwnB w4 w2.heap.size v4 pre by rw [hw4, hv4, hpre]; exact own_nil _ _)
  have HG4 := Lib.hid (show Grw w2 w4 (.slice none 0 0) v4 by rw [hw4, hv4]; exact Grw.refl _ _)
  have HPL := Lib.hid (show pre.length ≤ 12 by rw [hpre]; simp)
  have HK4 := Lib.hid (HG4.out.bk HK2.out (by simp [Value.ownBlock]))
  have HPRE := Lib.hid hpre
  go_wp2_with fail
  refine (rusesN_2 w2).mono ?_
  rintro e wq ⟨rfl, rfl⟩
  go_wp2_with fail
  refine (rcounted_2 w2).mono ?_
  rintro e wq ⟨rfl, rfl⟩
  go_upto_region 20 with (fail)
  rw [← hw4] at m0 m1 m2 m3 m4 m5 m6 ⊢
  rw [← hv4]
  clear hw4 hv4 hpre
  have hz4 := HG4.out.kp.size
  have HI2 := Lib.hid (show HashesAt w2 B A ids from At.below HI.out (HB2.out.mono hB))
  have hB2 : B ≤ w2.heap.size := by omega
  have hn32' : ids.length ≤ 32 := by rw [← HN.out]; exact hn32
  have HFL := Lib.hid (fun k => flat_take_le ids k HOKI.out hn32')
  clear hn32'
  go_wp2_with fail
  go_loopw [7, 117] (fun v i wr => ∃ k : Nat, k ≤ n ∧ i = .int .i64 (k : Int) ∧ Hid (OwnB wr w2.heap.size v (pre ++ (ids.take k).flatten)) ∧ Hid (Grw w2 wr (.slice none 0 0) v)) (fun _ i _ => n - (intOf i).toNat)
  case atStart => exact ⟨0, Nat.zero_le _, rfl, Lib.hid (by simpa using HO4.out), HG4⟩
  case round =>
    obtain ⟨k, hk, rfl, hob, hgr⟩ := hrel
    have HBL := Lib.hid (hgr.out.below (own_nil w2 w2.heap.size) (Nat.le_refl _) (Nat.le_refl _))
    by_cases hlt : k < n
    · exfalso; omega
    · have hkn : k = n := by omega
      have HTK := Lib.hid (show ids.take k = ids from List.take_of_length_le (by rw [hkn, HN.out]; exact Nat.le_refl _))
      have hob' := hob.out
      rw [HTK.out] at hob'
      obtain ⟨P, hP⟩ : ∃ P, P = pre ++ ids.flatten := ⟨_, rfl⟩
      rw [← hP] at hob'
      have HPP := Lib.hid hP
      have HOB := Lib.hid hob'
      have hpl : P.length ≤ 1036 := by
        rw [hP, List.length_append]
        have h1 := HFL.out n
        rw [← hkn, HTK.out] at h1
        have := HPL.out
        omega
      have HGR := hgr
      clear hkn hP hob' hob HTK HO4 HG4 HK4 hgr m0 m1 m2 m3 m4 m5 m6
      have HKR := Lib.hid (HGR.out.bk HK2.out (by simp [Value.ownBlock]))
      have HBR := Lib.hid (HB2.out.trans (HBL.out.mono HB2.out.size))
      have hws := HGR.out.kp.size
      have m0 : wr.cell? ⟨w.heap.size, 0, none⟩ = some (.int .i64 2) := by rw [HKR.out.1.cell, HMS.out]; rfl
      have m1 : wr.cell? ⟨w.heap.size, 1, none⟩ = some (.int .u64 (mn : Int)) := by rw [HKR.out.1.cell, HMS.out]; rfl
      have m2 : wr.cell? ⟨w.heap.size, 2, none⟩ = some (.int .u32 (mc : Int)) := by rw [HKR.out.1.cell, HMS.out]; rfl
      have m3 : wr.cell? ⟨w.heap.size, 3, none⟩ = some (.slice A n c) := by rw [HKR.out.1.cell, HMS.out]; rfl
      have m4 : wr.cell? ⟨w.heap.size, 4, none⟩ = some (.int .u32 (t.version : Int)) := by rw [HKR.out.1.cell, HMS.out]; rfl
      have m5 : wr.cell? ⟨w.heap.size, 5, none⟩ = some (.slice A1 t.ins.length c1) := by rw [HKR.out.1.cell, HMS.out]; rfl
      have m6 : wr.cell? ⟨w.heap.size, 6, none⟩ = some (.slice A2 t.outs.length c2) := by rw [HKR.out.1.cell, HMS.out]; rfl
      go_wp2_with fail
      refine (rusesTx_2 wr).mono ?_
      rintro e wq ⟨rfl, rfl⟩
      go_wp2_with fail
      refine (HNAME.out wr).mono ?_
      rintro e wq ⟨rfl, rfl⟩
      go_wp2_with fail
      go_ret3
      rw [HF.out H1.out H2.out H3.out H4.out]
      exact ⟨u7, by rw [← HSTR.out]; rfl, (by have := own_mono HOB.out HB2.out.size; rw [HPP.out, HPRE.out] at this; exact this), HBR.out⟩
set_option maxHeartbeats 8000000 in
theorem rput8_3 (mn mc : Nat) (ids : List (List UInt8)) (t : Txs.Tx) (A A1 A2 : Option Addr) (c c1 c2 B : Nat) (w : World) (h : MsgAt w B ⟨3, mn, mc, ids, t⟩ A c A1 c1 A2 c2) (hB : B ≤ w.heap.size) :
    Calls Tryd.prog 14 #[msgV ⟨3, mn, mc, ids, t⟩ A c A1 c1 A2 c2] w fun e w' => PutOut w w' (Msgs.put ⟨3, mn, mc, ids, t⟩) e := by
  have hok := h.ok
  have hmn : mn < 18446744073709551616 := hok.n
  have hmc : mc < 4294967296 := hok.code
  have hs : Msgs.shp 3 = Msgs.shN 3 := rfl
  have hkn : Msgs.known 3 = true := rfl
  have HOKI := Lib.hid hok.ids
  have HI := Lib.hid h.ids
  have HE2 := Lib.hid (show (mc ≠ 0) → Msgs.put ⟨3, mn, mc, ids, t⟩ = ([], [], 2) from by
    intro  g
    simp [Msgs.put, Msgs.errOf, Msgs.misfit, hs, hkn, Msgs.shN, Msgs.body, Oct.le, g])
  have HE3 := Lib.hid (show (ids ≠ []) → Msgs.put ⟨3, mn, mc, ids, t⟩ = ([], [], 2) from by
    intro  g
    simp [Msgs.put, Msgs.errOf, Msgs.misfit, hs, hkn, Msgs.shN, Msgs.body, Oct.le, g])
  have HE4 := Lib.hid (show (t ≠ Txs.none) → Msgs.put ⟨3, mn, mc, ids, t⟩ = ([], [], 2) from by
    intro  g
    simp [Msgs.put, Msgs.errOf, Msgs.misfit, hs, hkn, Msgs.shN, Msgs.body, Oct.le, g])
  have HF := Lib.hid (show (mc = 0) → (ids = []) → (t = Txs.none) → Msgs.put ⟨3, mn, mc, ids, t⟩ = ((Msgs.shp 3).cmd, (Oct.le mn 8) ++ ids.flatten, 0) from by
    intro g0 g1 g2
    have e0 : Msgs.errOf ⟨3, mn, mc, ids, t⟩ = 0 := by simp [Msgs.errOf, Msgs.misfit, hs, hkn, Msgs.shN, g0, g1, g2]
    unfold Msgs.put
    rw [if_neg (by simp [e0]), if_neg (by simp [hs, Msgs.shN])]
    simp [Msgs.body, hs, Msgs.shN, g0, g1, g2, Oct.le])
  have HTX2 := Lib.hid (fun W (hb : Below w.heap.size w W) => show TxAt W w.heap.size t A1 c1 A2 c2 from (h.tx.below (hb.mono hB)).mono hB)
  have HOKT := Lib.hid hok.tx
  have HNAME := Lib.hid (fun W => name_yes 3 hkn W)
  obtain ⟨str, hstr⟩ : ∃ str, str = (⟨(Msgs.shp 3).cmd.toArray⟩ : ByteArray) := ⟨_, rfl⟩
  have hne : str.toList.isEmpty = false := by rw [str_empty, hstr]; decide
  rw [← hstr] at HNAME
  have HSTR := Lib.hid hstr
  obtain ⟨w1, ms, hms, hv, hms7, hw1, hb1, hz1, hk1⟩ := msg_box w ⟨3, mn, mc, ids, t⟩ A A1 A2 c c1 c2
  have HB1 := Lib.hid hb1
  have HK1 := Lib.hid hk1
  rw [hv]
  rw [hms] at hw1
  simp only at hw1
  obtain ⟨n, hn⟩ : ∃ n, n = ids.length := ⟨_, rfl⟩
  rw [← hn] at hms hw1
  have HMS := Lib.hid hms
  have HN := Lib.hid hn
  rw [hms]
  have hz1' : w.heap.size + 1 ≤ w1.heap.size := by omega
  clear hn hms hms7 hb1 hk1 hz1 hv hstr h hok hs hkn
  obtain ⟨i0, hi, hz0, hz1, hz2⟩ := info_parts byte_info
  have Hi := Lib.hid hi
  have Hz := Lib.hid hz0
  have Hz1 := Lib.hid hz1
  have Hz2 := Lib.hid hz2
  clear hi hz0 hz1 hz2
  obtain ⟨zs, hzs⟩ : ∃ zs, zs = bytesArr (List.replicate 32 (0 : UInt8)) := ⟨_, rfl⟩
  have HZH := Lib.hid (show (Tryd.prog.info? 49).map (·.zero) = some (some (.agg zs)) by rw [hzs]; exact zero_hash)
  have HZHL := Lib.hid (show zs.size = 32 by rw [hzs]; simp [bytesArr])
  clear hzs
  go_enter Tryd.func14, Tryd.ntmps14
  go_upto_region 1 with (fail)
  rw [← hw1]
  clear hw1
  have m0 : w1.cell? ⟨w.heap.size, 0, none⟩ = some (.int .i64 3) := by rw [HK1.out.cell, HMS.out]; rfl
  have m1 : w1.cell? ⟨w.heap.size, 1, none⟩ = some (.int .u64 (mn : Int)) := by rw [HK1.out.cell, HMS.out]; rfl
  have m2 : w1.cell? ⟨w.heap.size, 2, none⟩ = some (.int .u32 (mc : Int)) := by rw [HK1.out.cell, HMS.out]; rfl
  have m3 : w1.cell? ⟨w.heap.size, 3, none⟩ = some (.slice A n c) := by rw [HK1.out.cell, HMS.out]; rfl
  have m4 : w1.cell? ⟨w.heap.size, 4, none⟩ = some (.int .u32 (t.version : Int)) := by rw [HK1.out.cell, HMS.out]; rfl
  have m5 : w1.cell? ⟨w.heap.size, 5, none⟩ = some (.slice A1 t.ins.length c1) := by rw [HK1.out.cell, HMS.out]; rfl
  have m6 : w1.cell? ⟨w.heap.size, 6, none⟩ = some (.slice A2 t.outs.length c2) := by rw [HK1.out.cell, HMS.out]; rfl
  go_wp2_with fail
  refine (HNAME.out w1).mono ?_
  rintro e wq ⟨rfl, rfl⟩
  go_wp2_with fail
  refine (rusesN_3 w1).mono ?_
  rintro e wq ⟨rfl, rfl⟩
  go_wp2_with fail
  refine (rusesCode_3 w1).mono ?_
  rintro e wq ⟨rfl, rfl⟩
  by_cases h2 : mc = 0
  rotate_left
  focus
    have e2 : ((mc : Int) != 0) = true := by rw [bne_iff_ne]; omega
    have H2 := Lib.hid h2
    clear h2
    go_wp2_with fail
    go_ret3
    rw [HE2.out H2.out]
    exact ⟨.slice none 0 0, rfl, own_nil _ _, HB1.out⟩
  have e2 : ((mc : Int) != 0) = false := by rw [h2]; rfl
  have H2 := Lib.hid h2
  clear h2
  go_wp2_with fail
  refine (rusesIds_3 w1).mono ?_
  rintro e wq ⟨rfl, rfl⟩
  clear e2
  by_cases h3 : n = 0
  rotate_left
  focus
    have e3 : (0 : Int) < (n : Int) := by omega
    have e3n : 0 < n := by omega
    have H3 := Lib.hid (show ids ≠ [] from fun e => h3 (by rw [HN.out, e]; rfl))
    clear h3
    go_wp2_with fail
    go_ret3
    rw [HE3.out H3.out]
    exact ⟨.slice none 0 0, rfl, own_nil _ _, HB1.out⟩
  have H3 := Lib.hid (show ids = [] from List.length_eq_zero_iff.1 (HN.out.symm.trans h3))
  have e3 : ¬ (0 : Int) < (n : Int) := by omega
  have e3n : ¬ 0 < n := by omega
  clear h3
  go_wp2_with fail
  refine (rusesTx_3 w1).mono ?_
  rintro e wq ⟨rfl, rfl⟩
  go_wp2_with fail
  refine (bare_any t A1 A2 c1 c2 w1).mono ?_
  rintro e w2 ⟨rfl, hb2⟩
  have HB2 := Lib.hid (HB1.out.trans (hb2.mono HB1.out.size))
  have HK2 := Lib.hid (HK1.out.below hb2 HK1.out.lt)
  have hz2 : w.heap.size + 1 ≤ w2.heap.size := by have := hb2.size; omega
  clear hb2
  clear m0 m1 m2 m3 m4 m5 m6
  have m0 : w2.cell? ⟨w.heap.size, 0, none⟩ = some (.int .i64 3) := by rw [HK2.out.cell, HMS.out]; rfl
  have m1 : w2.cell? ⟨w.heap.size, 1, none⟩ = some (.int .u64 (mn : Int)) := by rw [HK2.out.cell, HMS.out]; rfl
  have m2 : w2.cell? ⟨w.heap.size, 2, none⟩ = some (.int .u32 (mc : Int)) := by rw [HK2.out.cell, HMS.out]; rfl
  have m3 : w2.cell? ⟨w.heap.size, 3, none⟩ = some (.slice A n c) := by rw [HK2.out.cell, HMS.out]; rfl
  have m4 : w2.cell? ⟨w.heap.size, 4, none⟩ = some (.int .u32 (t.version : Int)) := by rw [HK2.out.cell, HMS.out]; rfl
  have m5 : w2.cell? ⟨w.heap.size, 5, none⟩ = some (.slice A1 t.ins.length c1) := by rw [HK2.out.cell, HMS.out]; rfl
  have m6 : w2.cell? ⟨w.heap.size, 6, none⟩ = some (.slice A2 t.outs.length c2) := by rw [HK2.out.cell, HMS.out]; rfl
  by_cases h4 : t = Txs.none
  rotate_left
  focus
    rw [decide_eq_false h4]
    have H4 := Lib.hid h4
    clear h4
    go_wp2_with fail
    go_ret3
    rw [HE4.out H4.out]
    exact ⟨.slice none 0 0, rfl, own_nil _ _, HB2.out⟩
  rw [decide_eq_true h4]
  have H4 := Lib.hid h4
  clear h4
  go_wp2_with fail
  refine (rusesIds_3 w2).mono ?_
  rintro e wq ⟨rfl, rfl⟩
  have e6 : ¬ (32 : Int) < (n : Int) := by omega
  have hn32 : n ≤ 32 := by omega
  go_wp2_with fail
  refine (rusesN_3 w2).mono ?_
  rintro e wq ⟨rfl, rfl⟩
  go_wp2_with fail
  refine (num8_any mn 8 (by unfold U64; omega) (by decide) (by omega) w2).mono ?_
  rintro e w3b ⟨v3, rfl, ho3, hb3⟩
  obtain ⟨A3, c3, rfl, _, hm3, hat3, _⟩ := OwnB.at_ ho3
  have HSRC3 := Lib.hid (BytesAt.src hat3)
  have HL3b := Lib.hid (Oct.le_length mn 8)
  have HB3b := Lib.hid hb3
  have hz3b := hb3.size
  clear ho3 hat3 hb3
  rw [HL3b.out]
  go_upto_region 18 with (at_builtin; refine wpList_app _ rfl (.tmp 100) (.tmp 103) _ rfl w2.heap.size 5 i0 _ 1 1 Tryd.underlying33 Hi.out Hz.out Hz1.out Hz2.out rfl (by decide) (.slice none 0 0) ([] : List UInt8).length (([] : List UInt8).map byteV) rfl (own_nil _ _) A3 8 c3 ((Oct.le mn 8).map byteV) rfl (by rw [List.length_map, HL3b.out]) HSRC3.out (oneCell_bytes _) (by simp [maxLen]) (by simp) (by exact hz3b) ?_; intro v4b w4b hrow4 hg4 hat4)
  have HO4b := Lib.hid (show OwnB w4b w2.heap.size v4b (Oct.le mn 8) by
    have := own_app (bs := []) hrow4 rfl HL3b.out.symm
    rwa [List.nil_append] at this)
  have HG4b := Lib.hid (show Grw w2 w4b (.slice none 0 0) v4b from (Grw.of_below HB3b.out _).trans (Grw.of_app hg4 hat4))
  clear hrow4 hg4 hat4 HSRC3 m0 m1 m2 m3 m4 m5 m6
  have HK4b := Lib.hid (HG4b.out.bk HK2.out (by simp [Value.ownBlock]))
  have hz4b := HG4b.out.kp.size
  have m0 : w4b.cell? ⟨w.heap.size, 0, none⟩ = some (.int .i64 3) := by rw [HK4b.out.1.cell, HMS.out]; rfl
  have m1 : w4b.cell? ⟨w.heap.size, 1, none⟩ = some (.int .u64 (mn : Int)) := by rw [HK4b.out.1.cell, HMS.out]; rfl
  have m2 : w4b.cell? ⟨w.heap.size, 2, none⟩ = some (.int .u32 (mc : Int)) := by rw [HK4b.out.1.cell, HMS.out]; rfl
  have m3 : w4b.cell? ⟨w.heap.size, 3, none⟩ = some (.slice A n c) := by rw [HK4b.out.1.cell, HMS.out]; rfl
  have m4 : w4b.cell? ⟨w.heap.size, 4, none⟩ = some (.int .u32 (t.version : Int)) := by rw [HK4b.out.1.cell, HMS.out]; rfl
  have m5 : w4b.cell? ⟨w.heap.size, 5, none⟩ = some (.slice A1 t.ins.length c1) := by rw [HK4b.out.1.cell, HMS.out]; rfl
  have m6 : w4b.cell? ⟨w.heap.size, 6, none⟩ = some (.slice A2 t.outs.length c2) := by rw [HK4b.out.1.cell, HMS.out]; rfl
  obtain ⟨w4, hw4⟩ : ∃ w4, w4 = w4b := ⟨_, rfl⟩
  obtain ⟨v4, hv4⟩ : ∃ v4, v4 = v4b := ⟨_, rfl⟩
  obtain ⟨pre, hpre⟩ : ∃ pre, pre = Oct.le mn 8 := ⟨_, rfl⟩
  have HO4 := HO4b
  have HG4 := HG4b
  have HK4 := HK4b
  rw [← hpre] at HO4
  have HPL : Hid (pre.length ≤ 12) := Lib.hid (by rw [hpre]; simp [Oct.le_length])
  rw [← hw4, ← hv4] at HO4 HG4
  rw [← hw4] at HK4 m0 m1 m2 m3 m4 m5 m6 ⊢
  rw [← hv4]
  have HPRE := Lib.hid hpre
  clear hpre hw4 hv4
  go_wp2_with fail
  refine (rcounted_3 w4).mono ?_
  rintro e wq ⟨rfl, rfl⟩
  have hz4 := HG4.out.kp.size
  have HI2 := Lib.hid (show HashesAt w2 B A ids from At.below HI.out (HB2.out.mono hB))
  have hB2 : B ≤ w2.heap.size := by omega
  have hn32' : ids.length ≤ 32 := by rw [← HN.out]; exact hn32
  have HFL := Lib.hid (fun k => flat_take_le ids k HOKI.out hn32')
  clear hn32'
  go_wp2_with fail
  go_loopw [7, 117] (fun v i wr => ∃ k : Nat, k ≤ n ∧ i = .int .i64 (k : Int) ∧ Hid (OwnB wr w2.heap.size v (pre ++ (ids.take k).flatten)) ∧ Hid (Grw w2 wr (.slice none 0 0) v)) (fun _ i _ => n - (intOf i).toNat)
  case atStart => exact ⟨0, Nat.zero_le _, rfl, Lib.hid (by simpa using HO4.out), HG4⟩
  case round =>
    obtain ⟨k, hk, rfl, hob, hgr⟩ := hrel
    have HBL := Lib.hid (hgr.out.below (own_nil w2 w2.heap.size) (Nat.le_refl _) (Nat.le_refl _))
    by_cases hlt : k < n
    · exfalso; omega
    · have hkn : k = n := by omega
      have HTK := Lib.hid (show ids.take k = ids from List.take_of_length_le (by rw [hkn, HN.out]; exact Nat.le_refl _))
      have hob' := hob.out
      rw [HTK.out] at hob'
      obtain ⟨P, hP⟩ : ∃ P, P = pre ++ ids.flatten := ⟨_, rfl⟩
      rw [← hP] at hob'
      have HPP := Lib.hid hP
      have HOB := Lib.hid hob'
      have hpl : P.length ≤ 1036 := by
        rw [hP, List.length_append]
        have h1 := HFL.out n
        rw [← hkn, HTK.out] at h1
        have := HPL.out
        omega
      have HGR := hgr
      clear hkn hP hob' hob HTK HO4 HG4 HK4 hgr m0 m1 m2 m3 m4 m5 m6
      have HKR := Lib.hid (HGR.out.bk HK2.out (by simp [Value.ownBlock]))
      have HBR := Lib.hid (HB2.out.trans (HBL.out.mono HB2.out.size))
      have hws := HGR.out.kp.size
      have m0 : wr.cell? ⟨w.heap.size, 0, none⟩ = some (.int .i64 3) := by rw [HKR.out.1.cell, HMS.out]; rfl
      have m1 : wr.cell? ⟨w.heap.size, 1, none⟩ = some (.int .u64 (mn : Int)) := by rw [HKR.out.1.cell, HMS.out]; rfl
      have m2 : wr.cell? ⟨w.heap.size, 2, none⟩ = some (.int .u32 (mc : Int)) := by rw [HKR.out.1.cell, HMS.out]; rfl
      have m3 : wr.cell? ⟨w.heap.size, 3, none⟩ = some (.slice A n c) := by rw [HKR.out.1.cell, HMS.out]; rfl
      have m4 : wr.cell? ⟨w.heap.size, 4, none⟩ = some (.int .u32 (t.version : Int)) := by rw [HKR.out.1.cell, HMS.out]; rfl
      have m5 : wr.cell? ⟨w.heap.size, 5, none⟩ = some (.slice A1 t.ins.length c1) := by rw [HKR.out.1.cell, HMS.out]; rfl
      have m6 : wr.cell? ⟨w.heap.size, 6, none⟩ = some (.slice A2 t.outs.length c2) := by rw [HKR.out.1.cell, HMS.out]; rfl
      go_wp2_with fail
      refine (rusesTx_3 wr).mono ?_
      rintro e wq ⟨rfl, rfl⟩
      go_wp2_with fail
      refine (HNAME.out wr).mono ?_
      rintro e wq ⟨rfl, rfl⟩
      go_wp2_with fail
      go_ret3
      rw [HF.out H2.out H3.out H4.out]
      exact ⟨u7, by rw [← HSTR.out]; rfl, (by have := own_mono HOB.out HB2.out.size; rw [HPP.out, HPRE.out] at this; exact this), HBR.out⟩
set_option maxHeartbeats 8000000 in
theorem rput8_4 (mn mc : Nat) (ids : List (List UInt8)) (t : Txs.Tx) (A A1 A2 : Option Addr) (c c1 c2 B : Nat) (w : World) (h : MsgAt w B ⟨4, mn, mc, ids, t⟩ A c A1 c1 A2 c2) (hB : B ≤ w.heap.size) :
    Calls Tryd.prog 14 #[msgV ⟨4, mn, mc, ids, t⟩ A c A1 c1 A2 c2] w fun e w' => PutOut w w' (Msgs.put ⟨4, mn, mc, ids, t⟩) e := by
  have hok := h.ok
  have hmn : mn < 18446744073709551616 := hok.n
  have hmc : mc < 4294967296 := hok.code
  have hs : Msgs.shp 4 = Msgs.shN 4 := rfl
  have hkn : Msgs.known 4 = true := rfl
  have HOKI := Lib.hid hok.ids
  have HI := Lib.hid h.ids
  have HE2 := Lib.hid (show (mc ≠ 0) → Msgs.put ⟨4, mn, mc, ids, t⟩ = ([], [], 2) from by
    intro  g
    simp [Msgs.put, Msgs.errOf, Msgs.misfit, hs, hkn, Msgs.shN, Msgs.body, Oct.le, g])
  have HE3 := Lib.hid (show (ids ≠ []) → Msgs.put ⟨4, mn, mc, ids, t⟩ = ([], [], 2) from by
    intro  g
    simp [Msgs.put, Msgs.errOf, Msgs.misfit, hs, hkn, Msgs.shN, Msgs.body, Oct.le, g])
  have HE4 := Lib.hid (show (t ≠ Txs.none) → Msgs.put ⟨4, mn, mc, ids, t⟩ = ([], [], 2) from by
    intro  g
    simp [Msgs.put, Msgs.errOf, Msgs.misfit, hs, hkn, Msgs.shN, Msgs.body, Oct.le, g])
  have HF := Lib.hid (show (mc = 0) → (ids = []) → (t = Txs.none) → Msgs.put ⟨4, mn, mc, ids, t⟩ = ((Msgs.shp 4).cmd, (Oct.le mn 8) ++ ids.flatten, 0) from by
    intro g0 g1 g2
    have e0 : Msgs.errOf ⟨4, mn, mc, ids, t⟩ = 0 := by simp [Msgs.errOf, Msgs.misfit, hs, hkn, Msgs.shN, g0, g1, g2]
    unfold Msgs.put
    rw [if_neg (by simp [e0]), if_neg (by simp [hs, Msgs.shN])]
    simp [Msgs.body, hs, Msgs.shN, g0, g1, g2, Oct.le])
  have HTX2 := Lib.hid (fun W (hb : Below w.heap.size w W) => show TxAt W w.heap.size t A1 c1 A2 c2 from (h.tx.below (hb.mono hB)).mono hB)
  have HOKT := Lib.hid hok.tx
  have HNAME := Lib.hid (fun W => name_yes 4 hkn W)
  obtain ⟨str, hstr⟩ : ∃ str, str = (⟨(Msgs.shp 4).cmd.toArray⟩ : ByteArray) := ⟨_, rfl⟩
  have hne : str.toList.isEmpty = false := by rw [str_empty, hstr]; decide
  rw [← hstr] at HNAME
  have HSTR := Lib.hid hstr
  obtain ⟨w1, ms, hms, hv, hms7, hw1, hb1, hz1, hk1⟩ := msg_box w ⟨4, mn, mc, ids, t⟩ A A1 A2 c c1 c2
  have HB1 := Lib.hid hb1
  have HK1 := Lib.hid hk1
  rw [hv]
  rw [hms] at hw1
  simp only at hw1
  obtain ⟨n, hn⟩ : ∃ n, n = ids.length := ⟨_, rfl⟩
  rw [← hn] at hms hw1
  have HMS := Lib.hid hms
  have HN := Lib.hid hn
  rw [hms]
  have hz1' : w.heap.size + 1 ≤ w1.heap.size := by omega
  clear hn hms hms7 hb1 hk1 hz1 hv hstr h hok hs hkn
  obtain ⟨i0, hi, hz0, hz1, hz2⟩ := info_parts byte_info
  have Hi := Lib.hid hi
  have Hz := Lib.hid hz0
  have Hz1 := Lib.hid hz1
  have Hz2 := Lib.hid hz2
  clear hi hz0 hz1 hz2
  obtain ⟨zs, hzs⟩ : ∃ zs, zs = bytesArr (List.replicate 32 (0 : UInt8)) := ⟨_, rfl⟩
  have HZH := Lib.hid (show (Tryd.prog.info? 49).map (·.zero) = some (some (.agg zs)) by rw [hzs]; exact zero_hash)
  have HZHL := Lib.hid (show zs.size = 32 by rw [hzs]; simp [bytesArr])
  clear hzs
  go_enter Tryd.func14, Tryd.ntmps14
  go_upto_region 1 with (fail)
  rw [← hw1]
  clear hw1
  have m0 : w1.cell? ⟨w.heap.size, 0, none⟩ = some (.int .i64 4) := by rw [HK1.out.cell, HMS.out]; rfl
  have m1 : w1.cell? ⟨w.heap.size, 1, none⟩ = some (.int .u64 (mn : Int)) := by rw [HK1.out.cell, HMS.out]; rfl
  have m2 : w1.cell? ⟨w.heap.size, 2, none⟩ = some (.int .u32 (mc : Int)) := by rw [HK1.out.cell, HMS.out]; rfl
  have m3 : w1.cell? ⟨w.heap.size, 3, none⟩ = some (.slice A n c) := by rw [HK1.out.cell, HMS.out]; rfl
  have m4 : w1.cell? ⟨w.heap.size, 4, none⟩ = some (.int .u32 (t.version : Int)) := by rw [HK1.out.cell, HMS.out]; rfl
  have m5 : w1.cell? ⟨w.heap.size, 5, none⟩ = some (.slice A1 t.ins.length c1) := by rw [HK1.out.cell, HMS.out]; rfl
  have m6 : w1.cell? ⟨w.heap.size, 6, none⟩ = some (.slice A2 t.outs.length c2) := by rw [HK1.out.cell, HMS.out]; rfl
  go_wp2_with fail
  refine (HNAME.out w1).mono ?_
  rintro e wq ⟨rfl, rfl⟩
  go_wp2_with fail
  refine (rusesN_4 w1).mono ?_
  rintro e wq ⟨rfl, rfl⟩
  go_wp2_with fail
  refine (rusesCode_4 w1).mono ?_
  rintro e wq ⟨rfl, rfl⟩
  by_cases h2 : mc = 0
  rotate_left
  focus
    have e2 : ((mc : Int) != 0) = true := by rw [bne_iff_ne]; omega
    have H2 := Lib.hid h2
    clear h2
    go_wp2_with fail
    go_ret3
    rw [HE2.out H2.out]
    exact ⟨.slice none 0 0, rfl, own_nil _ _, HB1.out⟩
  have e2 : ((mc : Int) != 0) = false := by rw [h2]; rfl
  have H2 := Lib.hid h2
  clear h2
  go_wp2_with fail
  refine (rusesIds_4 w1).mono ?_
  rintro e wq ⟨rfl, rfl⟩
  clear e2
  by_cases h3 : n = 0
  rotate_left
  focus
    have e3 : (0 : Int) < (n : Int) := by omega
    have e3n : 0 < n := by omega
    have H3 := Lib.hid (show ids ≠ [] from fun e => h3 (by rw [HN.out, e]; rfl))
    clear h3
    go_wp2_with fail
    go_ret3
    rw [HE3.out H3.out]
    exact ⟨.slice none 0 0, rfl, own_nil _ _, HB1.out⟩
  have H3 := Lib.hid (show ids = [] from List.length_eq_zero_iff.1 (HN.out.symm.trans h3))
  have e3 : ¬ (0 : Int) < (n : Int) := by omega
  have e3n : ¬ 0 < n := by omega
  clear h3
  go_wp2_with fail
  refine (rusesTx_4 w1).mono ?_
  rintro e wq ⟨rfl, rfl⟩
  go_wp2_with fail
  refine (bare_any t A1 A2 c1 c2 w1).mono ?_
  rintro e w2 ⟨rfl, hb2⟩
  have HB2 := Lib.hid (HB1.out.trans (hb2.mono HB1.out.size))
  have HK2 := Lib.hid (HK1.out.below hb2 HK1.out.lt)
  have hz2 : w.heap.size + 1 ≤ w2.heap.size := by have := hb2.size; omega
  clear hb2
  clear m0 m1 m2 m3 m4 m5 m6
  have m0 : w2.cell? ⟨w.heap.size, 0, none⟩ = some (.int .i64 4) := by rw [HK2.out.cell, HMS.out]; rfl
  have m1 : w2.cell? ⟨w.heap.size, 1, none⟩ = some (.int .u64 (mn : Int)) := by rw [HK2.out.cell, HMS.out]; rfl
  have m2 : w2.cell? ⟨w.heap.size, 2, none⟩ = some (.int .u32 (mc : Int)) := by rw [HK2.out.cell, HMS.out]; rfl
  have m3 : w2.cell? ⟨w.heap.size, 3, none⟩ = some (.slice A n c) := by rw [HK2.out.cell, HMS.out]; rfl
  have m4 : w2.cell? ⟨w.heap.size, 4, none⟩ = some (.int .u32 (t.version : Int)) := by rw [HK2.out.cell, HMS.out]; rfl
  have m5 : w2.cell? ⟨w.heap.size, 5, none⟩ = some (.slice A1 t.ins.length c1) := by rw [HK2.out.cell, HMS.out]; rfl
  have m6 : w2.cell? ⟨w.heap.size, 6, none⟩ = some (.slice A2 t.outs.length c2) := by rw [HK2.out.cell, HMS.out]; rfl
  by_cases h4 : t = Txs.none
  rotate_left
  focus
    rw [decide_eq_false h4]
    have H4 := Lib.hid h4
    clear h4
    go_wp2_with fail
    go_ret3
    rw [HE4.out H4.out]
    exact ⟨.slice none 0 0, rfl, own_nil _ _, HB2.out⟩
  rw [decide_eq_true h4]
  have H4 := Lib.hid h4
  clear h4
  go_wp2_with fail
  refine (rusesIds_4 w2).mono ?_
  rintro e wq ⟨rfl, rfl⟩
  have e6 : ¬ (32 : Int) < (n : Int) := by omega
  have hn32 : n ≤ 32 := by omega
  go_wp2_with fail
  refine (rusesN_4 w2).mono ?_
  rintro e wq ⟨rfl, rfl⟩
  go_wp2_with fail
  refine (num8_any mn 8 (by unfold U64; omega) (by decide) (by omega) w2).mono ?_
  rintro e w3b ⟨v3, rfl, ho3, hb3⟩
  obtain ⟨A3, c3, rfl, _, hm3, hat3, _⟩ := OwnB.at_ ho3
  have HSRC3 := Lib.hid (BytesAt.src hat3)
  have HL3b := Lib.hid (Oct.le_length mn 8)
  have HB3b := Lib.hid hb3
  have hz3b := hb3.size
  clear ho3 hat3 hb3
  rw [HL3b.out]
  go_upto_region 18 with (at_builtin; refine wpList_app _ rfl (.tmp 100) (.tmp 103) _ rfl w2.heap.size 5 i0 _ 1 1 Tryd.underlying33 Hi.out Hz.out Hz1.out Hz2.out rfl (by decide) (.slice none 0 0) ([] : List UInt8).length (([] : List UInt8).map byteV) rfl (own_nil _ _) A3 8 c3 ((Oct.le mn 8).map byteV) rfl (by rw [List.length_map, HL3b.out]) HSRC3.out (oneCell_bytes _) (by simp [maxLen]) (by simp) (by exact hz3b) ?_; intro v4b w4b hrow4 hg4 hat4)
  have HO4b := Lib.hid (show OwnB w4b w2.heap.size v4b (Oct.le mn 8) by
    have := own_app (bs := []) hrow4 rfl HL3b.out.symm
    rwa [List.nil_append] at this)
  have HG4b := Lib.hid (show Grw w2 w4b (.slice none 0 0) v4b from (Grw.of_below HB3b.out _).trans (Grw.of_app hg4 hat4))
  clear hrow4 hg4 hat4 HSRC3 m0 m1 m2 m3 m4 m5 m6
  have HK4b := Lib.hid (HG4b.out.bk HK2.out (by simp [Value.ownBlock]))
  have hz4b := HG4b.out.kp.size
  have m0 : w4b.cell? ⟨w.heap.size, 0, none⟩ = some (.int .i64 4) := by rw [HK4b.out.1.cell, HMS.out]; rfl
  have m1 : w4b.cell? ⟨w.heap.size, 1, none⟩ = some (.int .u64 (mn : Int)) := by rw [HK4b.out.1.cell, HMS.out]; rfl
  have m2 : w4b.cell? ⟨w.heap.size, 2, none⟩ = some (.int .u32 (mc : Int)) := by rw [HK4b.out.1.cell, HMS.out]; rfl
  have m3 : w4b.cell? ⟨w.heap.size, 3, none⟩ = some (.slice A n c) := by rw [HK4b.out.1.cell, HMS.out]; rfl
  have m4 : w4b.cell? ⟨w.heap.size, 4, none⟩ = some (.int .u32 (t.version : Int)) := by rw [HK4b.out.1.cell, HMS.out]; rfl
  have m5 : w4b.cell? ⟨w.heap.size, 5, none⟩ = some (.slice A1 t.ins.length c1) := by rw [HK4b.out.1.cell, HMS.out]; rfl
  have m6 : w4b.cell? ⟨w.heap.size, 6, none⟩ = some (.slice A2 t.outs.length c2) := by rw [HK4b.out.1.cell, HMS.out]; rfl
  obtain ⟨w4, hw4⟩ : ∃ w4, w4 = w4b := ⟨_, rfl⟩
  obtain ⟨v4, hv4⟩ : ∃ v4, v4 = v4b := ⟨_, rfl⟩
  obtain ⟨pre, hpre⟩ : ∃ pre, pre = Oct.le mn 8 := ⟨_, rfl⟩
  have HO4 := HO4b
  have HG4 := HG4b
  have HK4 := HK4b
  rw [← hpre] at HO4
  have HPL : Hid (pre.length ≤ 12) := Lib.hid (by rw [hpre]; simp [Oct.le_length])
  rw [← hw4, ← hv4] at HO4 HG4
  rw [← hw4] at HK4 m0 m1 m2 m3 m4 m5 m6 ⊢
  rw [← hv4]
  have HPRE := Lib.hid hpre
  clear hpre hw4 hv4
  go_wp2_with fail
  refine (rcounted_4 w4).mono ?_
  rintro e wq ⟨rfl, rfl⟩
  have hz4 := HG4.out.kp.size
  have HI2 := Lib.hid (show HashesAt w2 B A ids from At.below HI.out (HB2.out.mono hB))
  have hB2 : B ≤ w2.heap.size := by omega
  have hn32' : ids.length ≤ 32 := by rw [← HN.out]; exact hn32
  have HFL := Lib.hid (fun k => flat_take_le ids k HOKI.out hn32')
  clear hn32'
  go_wp2_with fail
  go_loopw [7, 117] (fun v i wr => ∃ k : Nat, k ≤ n ∧ i = .int .i64 (k : Int) ∧ Hid (OwnB wr w2.heap.size v (pre ++ (ids.take k).flatten)) ∧ Hid (Grw w2 wr (.slice none 0 0) v)) (fun _ i _ => n - (intOf i).toNat)
  case atStart => exact ⟨0, Nat.zero_le _, rfl, Lib.hid (by simpa using HO4.out), HG4⟩
  case round =>
    obtain ⟨k, hk, rfl, hob, hgr⟩ := hrel
    have HBL := Lib.hid (hgr.out.below (own_nil w2 w2.heap.size) (Nat.le_refl _) (Nat.le_refl _))
    by_cases hlt : k < n
    · exfalso; omega
    · have hkn : k = n := by omega
      have HTK := Lib.hid (show ids.take k = ids from List.take_of_length_le (by rw [hkn, HN.out]; exact Nat.le_refl _))
      have hob' := hob.out
      rw [HTK.out] at hob'
      obtain ⟨P, hP⟩ : ∃ P, P = pre ++ ids.flatten := ⟨_, rfl⟩
      rw [← hP] at hob'
      have HPP := Lib.hid hP
      have HOB := Lib.hid hob'
      have hpl : P.length ≤ 1036 := by
        rw [hP, List.length_append]
        have h1 := HFL.out n
        rw [← hkn, HTK.out] at h1
        have := HPL.out
        omega
      have HGR := hgr
      clear hkn hP hob' hob HTK HO4 HG4 HK4 hgr m0 m1 m2 m3 m4 m5 m6
      have HKR := Lib.hid (HGR.out.bk HK2.out (by simp [Value.ownBlock]))
      have HBR := Lib.hid (HB2.out.trans (HBL.out.mono HB2.out.size))
      have hws := HGR.out.kp.size
      have m0 : wr.cell? ⟨w.heap.size, 0, none⟩ = some (.int .i64 4) := by rw [HKR.out.1.cell, HMS.out]; rfl
      have m1 : wr.cell? ⟨w.heap.size, 1, none⟩ = some (.int .u64 (mn : Int)) := by rw [HKR.out.1.cell, HMS.out]; rfl
      have m2 : wr.cell? ⟨w.heap.size, 2, none⟩ = some (.int .u32 (mc : Int)) := by rw [HKR.out.1.cell, HMS.out]; rfl
      have m3 : wr.cell? ⟨w.heap.size, 3, none⟩ = some (.slice A n c) := by rw [HKR.out.1.cell, HMS.out]; rfl
      have m4 : wr.cell? ⟨w.heap.size, 4, none⟩ = some (.int .u32 (t.version : Int)) := by rw [HKR.out.1.cell, HMS.out]; rfl
      have m5 : wr.cell? ⟨w.heap.size, 5, none⟩ = some (.slice A1 t.ins.length c1) := by rw [HKR.out.1.cell, HMS.out]; rfl
      have m6 : wr.cell? ⟨w.heap.size, 6, none⟩ = some (.slice A2 t.outs.length c2) := by rw [HKR.out.1.cell, HMS.out]; rfl
      go_wp2_with fail
      refine (rusesTx_4 wr).mono ?_
      rintro e wq ⟨rfl, rfl⟩
      go_wp2_with fail
      refine (HNAME.out wr).mono ?_
      rintro e wq ⟨rfl, rfl⟩
      go_wp2_with fail
      go_ret3
      rw [HF.out H2.out H3.out H4.out]
      exact ⟨u7, by rw [← HSTR.out]; rfl, (by have := own_mono HOB.out HB2.out.size; rw [HPP.out, HPRE.out] at this; exact this), HBR.out⟩
set_option maxHeartbeats 8000000 in
theorem rput8_5 (mn mc : Nat) (ids : List (List UInt8)) (t : Txs.Tx) (A A1 A2 : Option Addr) (c c1 c2 B : Nat) (w : World) (h : MsgAt w B ⟨5, mn, mc, ids, t⟩ A c A1 c1 A2 c2) (hB : B ≤ w.heap.size) :
    Calls Tryd.prog 14 #[msgV ⟨5, mn, mc, ids, t⟩ A c A1 c1 A2 c2] w fun e w' => PutOut w w' (Msgs.put ⟨5, mn, mc, ids, t⟩) e := by
  have hok := h.ok
  have hmn : mn < 18446744073709551616 := hok.n
  have hmc : mc < 4294967296 := hok.code
  have hs : Msgs.shp 5 = Msgs.shN 5 := rfl
  have hkn : Msgs.known 5 = true := rfl
  have HOKI := Lib.hid hok.ids
  have HI := Lib.hid h.ids
  have HE1 := Lib.hid (show (mn ≠ 0) → Msgs.put ⟨5, mn, mc, ids, t⟩ = ([], [], 2) from by
    intro  g
    simp [Msgs.put, Msgs.errOf, Msgs.misfit, hs, hkn, Msgs.shN, Msgs.body, Oct.le, g])
  have HE2 := Lib.hid (show (mc ≠ 0) → Msgs.put ⟨5, mn, mc, ids, t⟩ = ([], [], 2) from by
    intro  g
    simp [Msgs.put, Msgs.errOf, Msgs.misfit, hs, hkn, Msgs.shN, Msgs.body, Oct.le, g])
  have HE4 := Lib.hid (show (t ≠ Txs.none) → Msgs.put ⟨5, mn, mc, ids, t⟩ = ([], [], 2) from by
    intro  g
    simp [Msgs.put, Msgs.errOf, Msgs.misfit, hs, hkn, Msgs.shN, Msgs.body, Oct.le, g])
  have HE5 := Lib.hid (show (mn = 0) → (mc = 0) → (t = Txs.none) → (ids = []) → Msgs.put ⟨5, mn, mc, ids, t⟩ = ([], [], 9) from by
    intro g0 g1 g2 g
    simp [Msgs.put, Msgs.errOf, Msgs.misfit, hs, hkn, Msgs.shN, Msgs.body, Oct.le, g, g0, g1, g2])
  have HE6 := Lib.hid (show (mn = 0) → (mc = 0) → (t = Txs.none) → (ids ≠ []) → (32 < ids.length) → Msgs.put ⟨5, mn, mc, ids, t⟩ = ([], [], 5) from by
    intro g0 g1 g2 g3 g
    simp [Msgs.put, Msgs.errOf, Msgs.misfit, hs, hkn, Msgs.shN, Msgs.body, Oct.le, g, g0, g1, g2, g3])
  have HF := Lib.hid (show (mn = 0) → (mc = 0) → (t = Txs.none) → (ids ≠ []) → (ids.length ≤ 32) → Msgs.put ⟨5, mn, mc, ids, t⟩ = ((Msgs.shp 5).cmd, (Oct.var ids.length) ++ ids.flatten, 0) from by
    intro g0 g1 g2 g3 g4
    have e0 : Msgs.errOf ⟨5, mn, mc, ids, t⟩ = 0 := by simp [Msgs.errOf, Msgs.misfit, hs, hkn, Msgs.shN, g0, g1, g2, g3, g4] <;> omega
    unfold Msgs.put
    rw [if_neg (by simp [e0]), if_neg (by simp [hs, Msgs.shN])]
    simp [Msgs.body, hs, Msgs.shN, g0, g1, g2, g3, g4, Oct.le])
  have HTX2 := Lib.hid (fun W (hb : Below w.heap.size w W) => show TxAt W w.heap.size t A1 c1 A2 c2 from (h.tx.below (hb.mono hB)).mono hB)
  have HOKT := Lib.hid hok.tx
  have HNAME := Lib.hid (fun W => name_yes 5 hkn W)
  obtain ⟨str, hstr⟩ : ∃ str, str = (⟨(Msgs.shp 5).cmd.toArray⟩ : ByteArray) := ⟨_, rfl⟩
  have hne : str.toList.isEmpty = false := by rw [str_empty, hstr]; decide
  rw [← hstr] at HNAME
  have HSTR := Lib.hid hstr
  obtain ⟨w1, ms, hms, hv, hms7, hw1, hb1, hz1, hk1⟩ := msg_box w ⟨5, mn, mc, ids, t⟩ A A1 A2 c c1 c2
  have HB1 := Lib.hid hb1
  have HK1 := Lib.hid hk1
  rw [hv]
  rw [hms] at hw1
  simp only at hw1
  obtain ⟨n, hn⟩ : ∃ n, n = ids.length := ⟨_, rfl⟩
  rw [← hn] at hms hw1
  have HMS := Lib.hid hms
  have HN := Lib.hid hn
  rw [hms]
  have hz1' : w.heap.size + 1 ≤ w1.heap.size := by omega
  clear hn hms hms7 hb1 hk1 hz1 hv hstr h hok hs hkn
  obtain ⟨i0, hi, hz0, hz1, hz2⟩ := info_parts byte_info
  have Hi := Lib.hid hi
  have Hz := Lib.hid hz0
  have Hz1 := Lib.hid hz1
  have Hz2 := Lib.hid hz2
  clear hi hz0 hz1 hz2
  obtain ⟨zs, hzs⟩ : ∃ zs, zs = bytesArr (List.replicate 32 (0 : UInt8)) := ⟨_, rfl⟩
  have HZH := Lib.hid (show (Tryd.prog.info? 49).map (·.zero) = some (some (.agg zs)) by rw [hzs]; exact zero_hash)
  have HZHL := Lib.hid (show zs.size = 32 by rw [hzs]; simp [bytesArr])
  clear hzs
  go_enter Tryd.func14, Tryd.ntmps14
  go_upto_region 1 with (fail)
  rw [← hw1]
  clear hw1
  have m0 : w1.cell? ⟨w.heap.size, 0, none⟩ = some (.int .i64 5) := by rw [HK1.out.cell, HMS.out]; rfl
  have m1 : w1.cell? ⟨w.heap.size, 1, none⟩ = some (.int .u64 (mn : Int)) := by rw [HK1.out.cell, HMS.out]; rfl
  have m2 : w1.cell? ⟨w.heap.size, 2, none⟩ = some (.int .u32 (mc : Int)) := by rw [HK1.out.cell, HMS.out]; rfl
  have m3 : w1.cell? ⟨w.heap.size, 3, none⟩ = some (.slice A n c) := by rw [HK1.out.cell, HMS.out]; rfl
  have m4 : w1.cell? ⟨w.heap.size, 4, none⟩ = some (.int .u32 (t.version : Int)) := by rw [HK1.out.cell, HMS.out]; rfl
  have m5 : w1.cell? ⟨w.heap.size, 5, none⟩ = some (.slice A1 t.ins.length c1) := by rw [HK1.out.cell, HMS.out]; rfl
  have m6 : w1.cell? ⟨w.heap.size, 6, none⟩ = some (.slice A2 t.outs.length c2) := by rw [HK1.out.cell, HMS.out]; rfl
  go_wp2_with fail
  refine (HNAME.out w1).mono ?_
  rintro e wq ⟨rfl, rfl⟩
  go_wp2_with fail
  refine (rusesN_5 w1).mono ?_
  rintro e wq ⟨rfl, rfl⟩
  by_cases h1 : mn = 0
  rotate_left
  focus
    have e1 : ((mn : Int) != 0) = true := by rw [bne_iff_ne]; omega
    have H1 := Lib.hid h1
    clear h1
    go_wp2_with fail
    go_ret3
    rw [HE1.out H1.out]
    exact ⟨.slice none 0 0, rfl, own_nil _ _, HB1.out⟩
  have e1 : ((mn : Int) != 0) = false := by rw [h1]; rfl
  have H1 := Lib.hid h1
  clear h1
  go_wp2_with fail
  refine (rusesCode_5 w1).mono ?_
  rintro e wq ⟨rfl, rfl⟩
  clear e1
  by_cases h2 : mc = 0
  rotate_left
  focus
    have e2 : ((mc : Int) != 0) = true := by rw [bne_iff_ne]; omega
    have H2 := Lib.hid h2
    clear h2
    go_wp2_with fail
    go_ret3
    rw [HE2.out H2.out]
    exact ⟨.slice none 0 0, rfl, own_nil _ _, HB1.out⟩
  have e2 : ((mc : Int) != 0) = false := by rw [h2]; rfl
  have H2 := Lib.hid h2
  clear h2
  go_wp2_with fail
  refine (rusesIds_5 w1).mono ?_
  rintro e wq ⟨rfl, rfl⟩
  clear e2
  go_wp2_with fail
  refine (rusesTx_5 w1).mono ?_
  rintro e wq ⟨rfl, rfl⟩
  go_wp2_with fail
  refine (bare_any t A1 A2 c1 c2 w1).mono ?_
  rintro e w2 ⟨rfl, hb2⟩
  have HB2 := Lib.hid (HB1.out.trans (hb2.mono HB1.out.size))
  have HK2 := Lib.hid (HK1.out.below hb2 HK1.out.lt)
  have hz2 : w.heap.size + 1 ≤ w2.heap.size := by have := hb2.size; omega
  clear hb2
  clear m0 m1 m2 m3 m4 m5 m6
  have m0 : w2.cell? ⟨w.heap.size, 0, none⟩ = some (.int .i64 5) := by rw [HK2.out.cell, HMS.out]; rfl
  have m1 : w2.cell? ⟨w.heap.size, 1, none⟩ = some (.int .u64 (mn : Int)) := by rw [HK2.out.cell, HMS.out]; rfl
  have m2 : w2.cell? ⟨w.heap.size, 2, none⟩ = some (.int .u32 (mc : Int)) := by rw [HK2.out.cell, HMS.out]; rfl
  have m3 : w2.cell? ⟨w.heap.size, 3, none⟩ = some (.slice A n c) := by rw [HK2.out.cell, HMS.out]; rfl
  have m4 : w2.cell? ⟨w.heap.size, 4, none⟩ = some (.int .u32 (t.version : Int)) := by rw [HK2.out.cell, HMS.out]; rfl
  have m5 : w2.cell? ⟨w.heap.size, 5, none⟩ = some (.slice A1 t.ins.length c1) := by rw [HK2.out.cell, HMS.out]; rfl
  have m6 : w2.cell? ⟨w.heap.size, 6, none⟩ = some (.slice A2 t.outs.length c2) := by rw [HK2.out.cell, HMS.out]; rfl
  by_cases h4 : t = Txs.none
  rotate_left
  focus
    rw [decide_eq_false h4]
    have H4 := Lib.hid h4
    clear h4
    go_wp2_with fail
    go_ret3
    rw [HE4.out H4.out]
    exact ⟨.slice none 0 0, rfl, own_nil _ _, HB2.out⟩
  rw [decide_eq_true h4]
  have H4 := Lib.hid h4
  clear h4
  go_wp2_with fail
  refine (rusesIds_5 w2).mono ?_
  rintro e wq ⟨rfl, rfl⟩
  by_cases h5 : n = 0
  focus
    have e5 : ((n : Int) == 0) = true := by rw [h5]; rfl
    have H5 := Lib.hid (show ids = [] from List.length_eq_zero_iff.1 (HN.out.symm.trans h5))
    clear h5
    go_wp2_with fail
    go_ret3
    rw [HE5.out H1.out H2.out H4.out H5.out]
    exact ⟨.slice none 0 0, rfl, own_nil _ _, HB2.out⟩
  have e5 : ((n : Int) == 0) = false := by rw [beq_eq_false_iff_ne]; omega
  have H5 := Lib.hid (show ids ≠ [] from fun e => h5 (by rw [HN.out, e]; rfl))
  by_cases h6 : 32 < n
  focus
    have e6 : (32 : Int) < (n : Int) := by omega
    have H6 := Lib.hid (show 32 < ids.length by rw [← HN.out]; exact h6)
    clear h5 h6
    go_wp2_with fail
    go_ret3
    rw [HE6.out H1.out H2.out H4.out H5.out H6.out]
    exact ⟨.slice none 0 0, rfl, own_nil _ _, HB2.out⟩
  have e6 : ¬ (32 : Int) < (n : Int) := by omega
  have H6 := Lib.hid (show ids.length ≤ 32 by rw [← HN.out]; omega)
  have hn32 : n ≤ 32 := by omega
  go_wp2_with fail
  refine (rusesN_5 w2).mono ?_
  rintro e wq ⟨rfl, rfl⟩
  go_wp2_with fail
  refine (rcounted_5 w2).mono ?_
  rintro e wq ⟨rfl, rfl⟩
  go_wp2_with fail
  refine (rvar_any n (by unfold U64; omega) w2).mono ?_
  rintro e w3a ⟨v3, rfl, ho3, hb3⟩
  obtain ⟨A3, c3, rfl, _, hm3, hat3, _⟩ := OwnB.at_ ho3
  have HSRC3 := Lib.hid (BytesAt.src hat3)
  have HL3a := Lib.hid (show (Oct.var n).length = 1 by rw [Oct.var_length]; unfold Oct.size; rw [if_pos (by omega)])
  have HB3a := Lib.hid hb3
  have hz3a := hb3.size
  clear ho3 hat3 hb3
  rw [HL3a.out]
  go_upto_region 20 with (at_builtin; refine wpList_app _ rfl (.tmp 107) (.tmp 112) _ rfl w2.heap.size 5 i0 _ 1 1 Tryd.underlying33 Hi.out Hz.out Hz1.out Hz2.out rfl (by decide) (.slice none 0 0) ([] : List UInt8).length (([] : List UInt8).map byteV) rfl (own_nil _ _) A3 1 c3 ((Oct.var n).map byteV) rfl (by rw [List.length_map, HL3a.out]) HSRC3.out (oneCell_bytes _) (by simp [maxLen]) (by simp) (by exact hz3a) ?_; intro v4a w4a hrow4 hg4 hat4)
  have HO4a := Lib.hid (show OwnB w4a w2.heap.size v4a (Oct.var n) by
    have := own_app (bs := []) hrow4 rfl HL3a.out.symm
    rwa [List.nil_append] at this)
  have HG4a := Lib.hid (show Grw w2 w4a (.slice none 0 0) v4a from (Grw.of_below HB3a.out _).trans (Grw.of_app hg4 hat4))
  clear hrow4 hg4 hat4 HSRC3 m0 m1 m2 m3 m4 m5 m6
  have HK4a := Lib.hid (HG4a.out.bk HK2.out (by simp [Value.ownBlock]))
  have hz4a := HG4a.out.kp.size
  have m0 : w4a.cell? ⟨w.heap.size, 0, none⟩ = some (.int .i64 5) := by rw [HK4a.out.1.cell, HMS.out]; rfl
  have m1 : w4a.cell? ⟨w.heap.size, 1, none⟩ = some (.int .u64 (mn : Int)) := by rw [HK4a.out.1.cell, HMS.out]; rfl
  have m2 : w4a.cell? ⟨w.heap.size, 2, none⟩ = some (.int .u32 (mc : Int)) := by rw [HK4a.out.1.cell, HMS.out]; rfl
  have m3 : w4a.cell? ⟨w.heap.size, 3, none⟩ = some (.slice A n c) := by rw [HK4a.out.1.cell, HMS.out]; rfl
  have m4 : w4a.cell? ⟨w.heap.size, 4, none⟩ = some (.int .u32 (t.version : Int)) := by rw [HK4a.out.1.cell, HMS.out]; rfl
  have m5 : w4a.cell? ⟨w.heap.size, 5, none⟩ = some (.slice A1 t.ins.length c1) := by rw [HK4a.out.1.cell, HMS.out]; rfl
  have m6 : w4a.cell? ⟨w.heap.size, 6, none⟩ = some (.slice A2 t.outs.length c2) := by rw [HK4a.out.1.cell, HMS.out]; rfl
  obtain ⟨w4, hw4⟩ : ∃ w4, w4 = w4a := ⟨_, rfl⟩
  obtain ⟨v4, hv4⟩ : ∃ v4, v4 = v4a := ⟨_, rfl⟩
  obtain ⟨pre, hpre⟩ : ∃ pre, pre = Oct.var n := ⟨_, rfl⟩
  have HO4 := HO4a
  have HG4 := HG4a
  have HK4 := HK4a
  rw [← hpre] at HO4
  have HPL : Hid (pre.length ≤ 12) := Lib.hid (by rw [hpre]; simp [Oct.le_length, HL3a.out])
  rw [← hw4, ← hv4] at HO4 HG4
  rw [← hw4] at HK4 m0 m1 m2 m3 m4 m5 m6 ⊢
  rw [← hv4]
  have HPRE := Lib.hid hpre
  clear hpre hw4 hv4
  have hz4 := HG4.out.kp.size
  have HI2 := Lib.hid (show HashesAt w2 B A ids from At.below HI.out (HB2.out.mono hB))
  have hB2 : B ≤ w2.heap.size := by omega
  have hn32' : ids.length ≤ 32 := by rw [← HN.out]; exact hn32
  have HFL := Lib.hid (fun k => flat_take_le ids k HOKI.out hn32')
  clear hn32'
  go_wp2_with fail
  go_loopw [7, 117] (fun v i wr => ∃ k : Nat, k ≤ n ∧ i = .int .i64 (k : Int) ∧ Hid (OwnB wr w2.heap.size v (pre ++ (ids.take k).flatten)) ∧ Hid (Grw w2 wr (.slice none 0 0) v)) (fun _ i _ => n - (intOf i).toNat)
  case atStart => exact ⟨0, Nat.zero_le _, rfl, Lib.hid (by simpa using HO4.out), HG4⟩
  case round =>
    obtain ⟨k, hk, rfl, hob, hgr⟩ := hrel
    have HBL := Lib.hid (hgr.out.below (own_nil w2 w2.heap.size) (Nat.le_refl _) (Nat.le_refl _))
    by_cases hlt : k < n
    · have hlt2 : k < ids.length := by rw [← HN.out]; exact hlt
      obtain ⟨b, off, rfl, hbB, hr, hxl⟩ := HashesAt.range (At.below HI2.out (HBL.out.mono hB2)) hlt2
      have HR := Lib.hid hr
      have HXL := Lib.hid hxl
      have HSN := Lib.hid (flat_snoc ids k hlt2)
      have hpl : (pre ++ (ids.take k).flatten).length ≤ 1036 := by
        rw [List.length_append]
        have := HFL.out k
        have := HPL.out
        omega
      clear hr hxl
      generalize ids[k] = x at *
      obtain ⟨P, hP⟩ : ∃ P, P = pre ++ (ids.take k).flatten := ⟨_, rfl⟩
      rw [← hP] at hob hpl
      have HP := Lib.hid hP
      obtain ⟨cx, hcx⟩ : ∃ cx, cx = x.map byteV := ⟨_, rfl⟩
      have HCX := Lib.hid hcx
      have HCL := Lib.hid (show cx.length = 32 by rw [hcx, List.length_map, HXL.out])
      have HCO := Lib.hid (show ∀ u ∈ cx, u.oneCell' = true by rw [hcx]; exact oneCell_bytes _)
      rw [← hcx] at HR
      have HOWN := Lib.hid (own_below hob.out (Joins.below_alloc1 wr (.cells cx.toArray 49)))
      have HSRC := Lib.hid (Src.new wr cx 49)
      have hws := hgr.out.kp.size
      clear hP hcx
      go_wp2_with (first
        | (refine wpList_elem rfl rfl rfl 49 (.tmp 119) (.tmp 9) (.tmp 120) rfl rfl rfl b (off + k * 32) (by rfl) cx _ HR.out Tryd.underlying49 rfl (by rw [HCL.out]; exact size_hash) zs HZH.out (by rw [HZHL.out, HCL.out]) HCO.out (by rfl) (by rfl) ?_)
        | (at_builtin; refine wpList_app _ rfl (.tmp 121) (.tmp 122) _ rfl w2.heap.size 5 i0 _ 1 1 Tryd.underlying33 Hi.out Hz.out Hz1.out Hz2.out rfl (by decide) u7 P.length (P.map byteV) rfl HOWN.out (some ⟨wr.heap.size, 0, none⟩) 32 32 cx rfl (by rw [HCL.out]) HSRC.out HCO.out (by unfold maxLen; omega) (by omega) (by simp; omega) ?_; intro v5 w5 hrow5 hg5 hat5))
      go_roundw
      case rel =>
        refine ⟨k + 1, by omega, by go_num, Lib.hid ?_, Lib.hid (hgr.out.trans ((Grw.of_below (Joins.below_alloc1 _ _) _).trans (Grw.of_app hg5 hat5)))⟩
        have := own_app hrow5 HCX.out HXL.out.symm
        rw [HSN.out, ← List.append_assoc, ← HP.out]
        exact this
      case measure => simp [intOf]; omega
    · have hkn : k = n := by omega
      have HTK := Lib.hid (show ids.take k = ids from List.take_of_length_le (by rw [hkn, HN.out]; exact Nat.le_refl _))
      have hob' := hob.out
      rw [HTK.out] at hob'
      obtain ⟨P, hP⟩ : ∃ P, P = pre ++ ids.flatten := ⟨_, rfl⟩
      rw [← hP] at hob'
      have HPP := Lib.hid hP
      have HOB := Lib.hid hob'
      have hpl : P.length ≤ 1036 := by
        rw [hP, List.length_append]
        have h1 := HFL.out n
        rw [← hkn, HTK.out] at h1
        have := HPL.out
        omega
      have HGR := hgr
      clear hkn hP hob' hob HTK HO4 HG4 HK4 hgr m0 m1 m2 m3 m4 m5 m6
      have HKR := Lib.hid (HGR.out.bk HK2.out (by simp [Value.ownBlock]))
      have HBR := Lib.hid (HB2.out.trans (HBL.out.mono HB2.out.size))
      have hws := HGR.out.kp.size
      have m0 : wr.cell? ⟨w.heap.size, 0, none⟩ = some (.int .i64 5) := by rw [HKR.out.1.cell, HMS.out]; rfl
      have m1 : wr.cell? ⟨w.heap.size, 1, none⟩ = some (.int .u64 (mn : Int)) := by rw [HKR.out.1.cell, HMS.out]; rfl
      have m2 : wr.cell? ⟨w.heap.size, 2, none⟩ = some (.int .u32 (mc : Int)) := by rw [HKR.out.1.cell, HMS.out]; rfl
      have m3 : wr.cell? ⟨w.heap.size, 3, none⟩ = some (.slice A n c) := by rw [HKR.out.1.cell, HMS.out]; rfl
      have m4 : wr.cell? ⟨w.heap.size, 4, none⟩ = some (.int .u32 (t.version : Int)) := by rw [HKR.out.1.cell, HMS.out]; rfl
      have m5 : wr.cell? ⟨w.heap.size, 5, none⟩ = some (.slice A1 t.ins.length c1) := by rw [HKR.out.1.cell, HMS.out]; rfl
      have m6 : wr.cell? ⟨w.heap.size, 6, none⟩ = some (.slice A2 t.outs.length c2) := by rw [HKR.out.1.cell, HMS.out]; rfl
      go_wp2_with fail
      refine (rusesTx_5 wr).mono ?_
      rintro e wq ⟨rfl, rfl⟩
      go_wp2_with fail
      refine (HNAME.out wr).mono ?_
      rintro e wq ⟨rfl, rfl⟩
      go_wp2_with fail
      go_ret3
      rw [HF.out H1.out H2.out H4.out H5.out H6.out]
      exact ⟨u7, by rw [← HSTR.out]; rfl, (by have := own_mono HOB.out HB2.out.size; rw [HPP.out, HPRE.out, HN.out] at this; exact this), HBR.out⟩
set_option maxHeartbeats 8000000 in
theorem rput8_6 (mn mc : Nat) (ids : List (List UInt8)) (t : Txs.Tx) (A A1 A2 : Option Addr) (c c1 c2 B : Nat) (w : World) (h : MsgAt w B ⟨6, mn, mc, ids, t⟩ A c A1 c1 A2 c2) (hB : B ≤ w.heap.size) :
    Calls Tryd.prog 14 #[msgV ⟨6, mn, mc, ids, t⟩ A c A1 c1 A2 c2] w fun e w' => PutOut w w' (Msgs.put ⟨6, mn, mc, ids, t⟩) e := by
  have hok := h.ok
  have hmn : mn < 18446744073709551616 := hok.n
  have hmc : mc < 4294967296 := hok.code
  have hs : Msgs.shp 6 = Msgs.shN 6 := rfl
  have hkn : Msgs.known 6 = true := rfl
  have HOKI := Lib.hid hok.ids
  have HI := Lib.hid h.ids
  have HE1 := Lib.hid (show (mn ≠ 0) → Msgs.put ⟨6, mn, mc, ids, t⟩ = ([], [], 2) from by
    intro  g
    simp [Msgs.put, Msgs.errOf, Msgs.misfit, hs, hkn, Msgs.shN, Msgs.body, Oct.le, g])
  have HE2 := Lib.hid (show (mc ≠ 0) → Msgs.put ⟨6, mn, mc, ids, t⟩ = ([], [], 2) from by
    intro  g
    simp [Msgs.put, Msgs.errOf, Msgs.misfit, hs, hkn, Msgs.shN, Msgs.body, Oct.le, g])
  have HE4 := Lib.hid (show (t ≠ Txs.none) → Msgs.put ⟨6, mn, mc, ids, t⟩ = ([], [], 2) from by
    intro  g
    simp [Msgs.put, Msgs.errOf, Msgs.misfit, hs, hkn, Msgs.shN, Msgs.body, Oct.le, g])
  have HE5 := Lib.hid (show (mn = 0) → (mc = 0) → (t = Txs.none) → (ids = []) → Msgs.put ⟨6, mn, mc, ids, t⟩ = ([], [], 9) from by
    intro g0 g1 g2 g
    simp [Msgs.put, Msgs.errOf, Msgs.misfit, hs, hkn, Msgs.shN, Msgs.body, Oct.le, g, g0, g1, g2])
  have HE6 := Lib.hid (show (mn = 0) → (mc = 0) → (t = Txs.none) → (ids ≠ []) → (32 < ids.length) → Msgs.put ⟨6, mn, mc, ids, t⟩ = ([], [], 5) from by
    intro g0 g1 g2 g3 g
    simp [Msgs.put, Msgs.errOf, Msgs.misfit, hs, hkn, Msgs.shN, Msgs.body, Oct.le, g, g0, g1, g2, g3])
  have HF := Lib.hid (show (mn = 0) → (mc = 0) → (t = Txs.none) → (ids ≠ []) → (ids.length ≤ 32) → Msgs.put ⟨6, mn, mc, ids, t⟩ = ((Msgs.shp 6).cmd, (Oct.var ids.length) ++ ids.flatten, 0) from by
    intro g0 g1 g2 g3 g4
    have e0 : Msgs.errOf ⟨6, mn, mc, ids, t⟩ = 0 := by simp [Msgs.errOf, Msgs.misfit, hs, hkn, Msgs.shN, g0, g1, g2, g3, g4] <;> omega
    unfold Msgs.put
    rw [if_neg (by simp [e0]), if_neg (by simp [hs, Msgs.shN])]
    simp [Msgs.body, hs, Msgs.shN, g0, g1, g2, g3, g4, Oct.le])
  have HTX2 := Lib.hid (fun W (hb : Below w.heap.size w W) => show TxAt W w.heap.size t A1 c1 A2 c2 from (h.tx.below (hb.mono hB)).mono hB)
  have HOKT := Lib.hid hok.tx
  have HNAME := Lib.hid (fun W => name_yes 6 hkn W)
  obtain ⟨str, hstr⟩ : ∃ str, str = (⟨(Msgs.shp 6).cmd.toArray⟩ : ByteArray) := ⟨_, rfl⟩
  have hne : str.toList.isEmpty = false := by rw [str_empty, hstr]; decide
  rw [← hstr] at HNAME
  have HSTR := Lib.hid hstr
  obtain ⟨w1, ms, hms, hv, hms7, hw1, hb1, hz1, hk1⟩ := msg_box w ⟨6, mn, mc, ids, t⟩ A A1 A2 c c1 c2
  have HB1 := Lib.hid hb1
  have HK1 := Lib.hid hk1
  rw [hv]
  rw [hms] at hw1
  simp only at hw1
  obtain ⟨n, hn⟩ : ∃ n, n = ids.length := ⟨_, rfl⟩
  rw [← hn] at hms hw1
  have HMS := Lib.hid hms
  have HN := Lib.hid hn
  rw [hms]
  have hz1' : w.heap.size + 1 ≤ w1.heap.size := by omega
  clear hn hms hms7 hb1 hk1 hz1 hv hstr h hok hs hkn
  obtain ⟨i0, hi, hz0, hz1, hz2⟩ := info_parts byte_info
  have Hi := Lib.hid hi
  have Hz := Lib.hid hz0
  have Hz1 := Lib.hid hz1
  have Hz2 := Lib.hid hz2
  clear hi hz0 hz1 hz2
  obtain ⟨zs, hzs⟩ : ∃ zs, zs = bytesArr (List.replicate 32 (0 : UInt8)) := ⟨_, rfl⟩
  have HZH := Lib.hid (show (Tryd.prog.info? 49).map (·.zero) = some (some (.agg zs)) by rw [hzs]; exact zero_hash)
  have HZHL := Lib.hid (show zs.size = 32 by rw [hzs]; simp [bytesArr])
  clear hzs
  go_enter Tryd.func14, Tryd.ntmps14
  go_upto_region 1 with (fail)
  rw [← hw1]
  clear hw1
  have m0 : w1.cell? ⟨w.heap.size, 0, none⟩ = some (.int .i64 6) := by rw [HK1.out.cell, HMS.out]; rfl
  have m1 : w1.cell? ⟨w.heap.size, 1, none⟩ = some (.int .u64 (mn : Int)) := by rw [HK1.out.cell, HMS.out]; rfl
  have m2 : w1.cell? ⟨w.heap.size, 2, none⟩ = some (.int .u32 (mc : Int)) := by rw [HK1.out.cell, HMS.out]; rfl
  have m3 : w1.cell? ⟨w.heap.size, 3, none⟩ = some (.slice A n c) := by rw [HK1.out.cell, HMS.out]; rfl
  have m4 : w1.cell? ⟨w.heap.size, 4, none⟩ = some (.int .u32 (t.version : Int)) := by rw [HK1.out.cell, HMS.out]; rfl
  have m5 : w1.cell? ⟨w.heap.size, 5, none⟩ = some (.slice A1 t.ins.length c1) := by rw [HK1.out.cell, HMS.out]; rfl
  have m6 : w1.cell? ⟨w.heap.size, 6, none⟩ = some (.slice A2 t.outs.length c2) := by rw [HK1.out.cell, HMS.out]; rfl
  go_wp2_with fail
  refine (HNAME.out w1).mono ?_
  rintro e wq ⟨rfl, rfl⟩
  go_wp2_with fail
  refine (rusesN_6 w1).mono ?_
  rintro e wq ⟨rfl, rfl⟩
  by_cases h1 : mn = 0
  rotate_left
  focus
    have e1 : ((mn : Int) != 0) = true := by rw [bne_iff_ne]; omega
    have H1 := Lib.hid h1
    clear h1
    go_wp2_with fail
    go_ret3
    rw [HE1.out H1.out]
    exact ⟨.slice none 0 0, rfl, own_nil _ _, HB1.out⟩
  have e1 : ((mn : Int) != 0) = false := by rw [h1]; rfl
  have H1 := Lib.hid h1
  clear h1
  go_wp2_with fail
  refine (rusesCode_6 w1).mono ?_
  rintro e wq ⟨rfl, rfl⟩
  clear e1
  by_cases h2 : mc = 0
  rotate_left
  focus
    have e2 : ((mc : Int) != 0) = true := by rw [bne_iff_ne]; omega
    have H2 := Lib.hid h2
    clear h2
    go_wp2_with fail
    go_ret3
    rw [HE2.out H2.out]
    exact ⟨.slice none 0 0, rfl, own_nil _ _, HB1.out⟩
  have e2 : ((mc : Int) != 0) = false := by rw [h2]; rfl
  have H2 := Lib.hid h2
  clear h2
  go_wp2_with fail
  refine (rusesIds_6 w1).mono ?_
  rintro e wq ⟨rfl, rfl⟩
  clear e2
  go_wp2_with fail
  refine (rusesTx_6 w1).mono ?_
  rintro e wq ⟨rfl, rfl⟩
  go_wp2_with fail
  refine (bare_any t A1 A2 c1 c2 w1).mono ?_
  rintro e w2 ⟨rfl, hb2⟩
  have HB2 := Lib.hid (HB1.out.trans (hb2.mono HB1.out.size))
  have HK2 := Lib.hid (HK1.out.below hb2 HK1.out.lt)
  have hz2 : w.heap.size + 1 ≤ w2.heap.size := by have := hb2.size; omega
  clear hb2
  clear m0 m1 m2 m3 m4 m5 m6
  have m0 : w2.cell? ⟨w.heap.size, 0, none⟩ = some (.int .i64 6) := by rw [HK2.out.cell, HMS.out]; rfl
  have m1 : w2.cell? ⟨w.heap.size, 1, none⟩ = some (.int .u64 (mn : Int)) := by rw [HK2.out.cell, HMS.out]; rfl
  have m2 : w2.cell? ⟨w.heap.size, 2, none⟩ = some (.int .u32 (mc : Int)) := by rw [HK2.out.cell, HMS.out]; rfl
  have m3 : w2.cell? ⟨w.heap.size, 3, none⟩ = some (.slice A n c) := by rw [HK2.out.cell, HMS.out]; rfl
  have m4 : w2.cell? ⟨w.heap.size, 4, none⟩ = some (.int .u32 (t.version : Int)) := by rw [HK2.out.cell, HMS.out]; rfl
  have m5 : w2.cell? ⟨w.heap.size, 5, none⟩ = some (.slice A1 t.ins.length c1) := by rw [HK2.out.cell, HMS.out]; rfl
  have m6 : w2.cell? ⟨w.heap.size, 6, none⟩ = some (.slice A2 t.outs.length c2) := by rw [HK2.out.cell, HMS.out]; rfl
  by_cases h4 : t = Txs.none
  rotate_left
  focus
    rw [decide_eq_false h4]
    have H4 := Lib.hid h4
    clear h4
    go_wp2_with fail
    go_ret3
    rw [HE4.out H4.out]
    exact ⟨.slice none 0 0, rfl, own_nil _ _, HB2.out⟩
  rw [decide_eq_true h4]
  have H4 := Lib.hid h4
  clear h4
  go_wp2_with fail
  refine (rusesIds_6 w2).mono ?_
  rintro e wq ⟨rfl, rfl⟩
  by_cases h5 : n = 0
  focus
    have e5 : ((n : Int) == 0) = true := by rw [h5]; rfl
    have H5 := Lib.hid (show ids = [] from List.length_eq_zero_iff.1 (HN.out.symm.trans h5))
    clear h5
    go_wp2_with fail
    go_ret3
    rw [HE5.out H1.out H2.out H4.out H5.out]
    exact ⟨.slice none 0 0, rfl, own_nil _ _, HB2.out⟩
  have e5 : ((n : Int) == 0) = false := by rw [beq_eq_false_iff_ne]; omega
  have H5 := Lib.hid (show ids ≠ [] from fun e => h5 (by rw [HN.out, e]; rfl))
  by_cases h6 : 32 < n
  focus
    have e6 : (32 : Int) < (n : Int) := by omega
    have H6 := Lib.hid (show 32 < ids.length by rw [← HN.out]; exact h6)
    clear h5 h6
    go_wp2_with fail
    go_ret3
    rw [HE6.out H1.out H2.out H4.out H5.out H6.out]
    exact ⟨.slice none 0 0, rfl, own_nil _ _, HB2.out⟩
  have e6 : ¬ (32 : Int) < (n : Int) := by omega
  have H6 := Lib.hid (show ids.length ≤ 32 by rw [← HN.out]; omega)
  have hn32 : n ≤ 32 := by omega
  go_wp2_with fail
  refine (rusesN_6 w2).mono ?_
  rintro e wq ⟨rfl, rfl⟩
  go_wp2_with fail
  refine (rcounted_6 w2).mono ?_
  rintro e wq ⟨rfl, rfl⟩
  go_wp2_with fail
  refine (rvar_any n (by unfold U64; omega) w2).mono ?_
  rintro e w3a ⟨v3, rfl, ho3, hb3⟩
  obtain ⟨A3, c3, rfl, _, hm3, hat3, _⟩ := OwnB.at_ ho3
  have HSRC3 := Lib.hid (BytesAt.src hat3)
  have HL3a := Lib.hid (show (Oct.var n).length = 1 by rw [Oct.var_length]; unfold Oct.size; rw [if_pos (by omega)])
  have HB3a := Lib.hid hb3
  have hz3a := hb3.size
  clear ho3 hat3 hb3
  rw [HL3a.out]
  go_upto_region 20 with (at_builtin; refine wpList_app _ rfl (.tmp 107) (.tmp 112) _ rfl w2.heap.size 5 i0 _ 1 1 Tryd.underlying33 Hi.out Hz.out Hz1.out Hz2.out rfl (by decide) (.slice none 0 0) ([] : List UInt8).length (([] : List UInt8).map byteV) rfl (own_nil _ _) A3 1 c3 ((Oct.var n).map byteV) rfl (by rw [List.length_map, HL3a.out]) HSRC3.out (oneCell_bytes _) (by simp [maxLen]) (by simp) (by exact hz3a) ?_; intro v4a w4a hrow4 hg4 hat4)
  have HO4a := Lib.hid (show OwnB w4a w2.heap.size v4a (Oct.var n) by
    have := own_app (bs := []) hrow4 rfl HL3a.out.symm
    rwa [List.nil_append] at this)
  have HG4a := Lib.hid (show Grw w2 w4a (.slice none 0 0) v4a from (Grw.of_below HB3a.out _).trans (Grw.of_app hg4 hat4))
  clear hrow4 hg4 hat4 HSRC3 m0 m1 m2 m3 m4 m5 m6
  have HK4a := Lib.hid (HG4a.out.bk HK2.out (by simp [Value.ownBlock]))
  have hz4a := HG4a.out.kp.size
  have m0 : w4a.cell? ⟨w.heap.size, 0, none⟩ = some (.int .i64 6) := by rw [HK4a.out.1.cell, HMS.out]; rfl
  have m1 : w4a.cell? ⟨w.heap.size, 1, none⟩ = some (.int .u64 (mn : Int)) := by rw [HK4a.out.1.cell, HMS.out]; rfl
  have m2 : w4a.cell? ⟨w.heap.size, 2, none⟩ = some (.int .u32 (mc : Int)) := by rw [HK4a.out.1.cell, HMS.out]; rfl
  have m3 : w4a.cell? ⟨w.heap.size, 3, none⟩ = some (.slice A n c) := by rw [HK4a.out.1.cell, HMS.out]; rfl
  have m4 : w4a.cell? ⟨w.heap.size, 4, none⟩ = some (.int .u32 (t.version : Int)) := by rw [HK4a.out.1.cell, HMS.out]; rfl
  have m5 : w4a.cell? ⟨w.heap.size, 5, none⟩ = some (.slice A1 t.ins.length c1) := by rw [HK4a.out.1.cell, HMS.out]; rfl
  have m6 : w4a.cell? ⟨w.heap.size, 6, none⟩ = some (.slice A2 t.outs.length c2) := by rw [HK4a.out.1.cell, HMS.out]; rfl
  obtain ⟨w4, hw4⟩ : ∃ w4, w4 = w4a := ⟨_, rfl⟩
  obtain ⟨v4, hv4⟩ : ∃ v4, v4 = v4a := ⟨_, rfl⟩
  obtain ⟨pre, hpre⟩ : ∃ pre, pre = Oct.var n := ⟨_, rfl⟩
  have HO4 := HO4a
  have HG4 := HG4a
  have HK4 := HK4a
  rw [← hpre] at HO4
  have HPL : Hid (pre.length ≤ 12) := Lib.hid (by rw [hpre]; simp [Oct.le_length, HL3a.out])
  rw [← hw4, ← hv4] at HO4 HG4
  rw [← hw4] at HK4 m0 m1 m2 m3 m4 m5 m6 ⊢
  rw [← hv4]
  have HPRE := Lib.hid hpre
  clear hpre hw4 hv4
  have hz4 := HG4.out.kp.size
  have HI2 := Lib.hid (show HashesAt w2 B A ids from At.below HI.out (HB2.out.mono hB))
  have hB2 : B ≤ w2.heap.size := by omega
  have hn32' : ids.length ≤ 32 := by rw [← HN.out]; exact hn32
  have HFL := Lib.hid (fun k => flat_take_le ids k HOKI.out hn32')
  clear hn32'
  go_wp2_with fail
  go_loopw [7, 117] (fun v i wr => ∃ k : Nat, k ≤ n ∧ i = .int .i64 (k : Int) ∧ Hid (OwnB wr w2.heap.size v (pre ++ (ids.take k).flatten)) ∧ Hid (Grw w2 wr (.slice none 0 0) v)) (fun _ i _ => n - (intOf i).toNat)
  case atStart => exact ⟨0, Nat.zero_le _, rfl, Lib.hid (by simpa using HO4.out), HG4⟩
  case round =>
    obtain ⟨k, hk, rfl, hob, hgr⟩ := hrel
    have HBL := Lib.hid (hgr.out.below (own_nil w2 w2.heap.size) (Nat.le_refl _) (Nat.le_refl _))
    by_cases hlt : k < n
    · have hlt2 : k < ids.length := by rw [← HN.out]; exact hlt
      obtain ⟨b, off, rfl, hbB, hr, hxl⟩ := HashesAt.range (At.below HI2.out (HBL.out.mono hB2)) hlt2
      have HR := Lib.hid hr
      have HXL := Lib.hid hxl
      have HSN := Lib.hid (flat_snoc ids k hlt2)
      have hpl : (pre ++ (ids.take k).flatten).length ≤ 1036 := by
        rw [List.length_append]
        have := HFL.out k
        have := HPL.out
        omega
      clear hr hxl
      generalize ids[k] = x at *
      obtain ⟨P, hP⟩ : ∃ P, P = pre ++ (ids.take k).flatten := ⟨_, rfl⟩
      rw [← hP] at hob hpl
      have HP := Lib.hid hP
      obtain ⟨cx, hcx⟩ : ∃ cx, cx = x.map byteV := ⟨_, rfl⟩
      have HCX := Lib.hid hcx
      have HCL := Lib.hid (show cx.length = 32 by rw [hcx, List.length_map, HXL.out])
      have HCO := Lib.hid (show ∀ u ∈ cx, u.oneCell' = true by rw [hcx]; exact oneCell_bytes _)
      rw [← hcx] at HR
      have HOWN := Lib.hid (own_below hob.out (Joins.below_alloc1 wr (.cells cx.toArray 49)))
      have HSRC := Lib.hid (Src.new wr cx 49)
      have hws := hgr.out.kp.size
      clear hP hcx
      go_wp2_with (first
        | (refine wpList_elem rfl rfl rfl 49 (.tmp 119) (.tmp 9) (.tmp 120) rfl rfl rfl b (off + k * 32) (by rfl) cx _ HR.out Tryd.underlying49 rfl (by rw [HCL.out]; exact size_hash) zs HZH.out (by rw [HZHL.out, HCL.out]) HCO.out (by rfl) (by rfl) ?_)
        | (at_builtin; refine wpList_app _ rfl (.tmp 121) (.tmp 122) _ rfl w2.heap.size 5 i0 _ 1 1 Tryd.underlying33 Hi.out Hz.out Hz1.out Hz2.out rfl (by decide) u7 P.length (P.map byteV) rfl HOWN.out (some ⟨wr.heap.size, 0, none⟩) 32 32 cx rfl (by rw [HCL.out]) HSRC.out HCO.out (by unfold maxLen; omega) (by omega) (by simp; omega) ?_; intro v5 w5 hrow5 hg5 hat5))
      go_roundw
      case rel =>
        refine ⟨k + 1, by omega, by go_num, Lib.hid ?_, Lib.hid (hgr.out.trans ((Grw.of_below (Joins.below_alloc1 _ _) _).trans (Grw.of_app hg5 hat5)))⟩
        have := own_app hrow5 HCX.out HXL.out.symm
        rw [HSN.out, ← List.append_assoc, ← HP.out]
        exact this
      case measure => simp [intOf]; omega
    · have hkn : k = n := by omega
      have HTK := Lib.hid (show ids.take k = ids from List.take_of_length_le (by rw [hkn, HN.out]; exact Nat.le_refl _))
      have hob' := hob.out
      rw [HTK.out] at hob'
      obtain ⟨P, hP⟩ : ∃ P, P = pre ++ ids.flatten := ⟨_, rfl⟩
      rw [← hP] at hob'
      have HPP := Lib.hid hP
      have HOB := Lib.hid hob'
      have hpl : P.length ≤ 1036 := by
        rw [hP, List.length_append]
        have h1 := HFL.out n
        rw [← hkn, HTK.out] at h1
        have := HPL.out
        omega
      have HGR := hgr
      clear hkn hP hob' hob HTK HO4 HG4 HK4 hgr m0 m1 m2 m3 m4 m5 m6
      have HKR := Lib.hid (HGR.out.bk HK2.out (by simp [Value.ownBlock]))
      have HBR := Lib.hid (HB2.out.trans (HBL.out.mono HB2.out.size))
      have hws := HGR.out.kp.size
      have m0 : wr.cell? ⟨w.heap.size, 0, none⟩ = some (.int .i64 6) := by rw [HKR.out.1.cell, HMS.out]; rfl
      have m1 : wr.cell? ⟨w.heap.size, 1, none⟩ = some (.int .u64 (mn : Int)) := by rw [HKR.out.1.cell, HMS.out]; rfl
      have m2 : wr.cell? ⟨w.heap.size, 2, none⟩ = some (.int .u32 (mc : Int)) := by rw [HKR.out.1.cell, HMS.out]; rfl
      have m3 : wr.cell? ⟨w.heap.size, 3, none⟩ = some (.slice A n c) := by rw [HKR.out.1.cell, HMS.out]; rfl
      have m4 : wr.cell? ⟨w.heap.size, 4, none⟩ = some (.int .u32 (t.version : Int)) := by rw [HKR.out.1.cell, HMS.out]; rfl
      have m5 : wr.cell? ⟨w.heap.size, 5, none⟩ = some (.slice A1 t.ins.length c1) := by rw [HKR.out.1.cell, HMS.out]; rfl
      have m6 : wr.cell? ⟨w.heap.size, 6, none⟩ = some (.slice A2 t.outs.length c2) := by rw [HKR.out.1.cell, HMS.out]; rfl
      go_wp2_with fail
      refine (rusesTx_6 wr).mono ?_
      rintro e wq ⟨rfl, rfl⟩
      go_wp2_with fail
      refine (HNAME.out wr).mono ?_
      rintro e wq ⟨rfl, rfl⟩
      go_wp2_with fail
      go_ret3
      rw [HF.out H1.out H2.out H4.out H5.out H6.out]
      exact ⟨u7, by rw [← HSTR.out]; rfl, (by have := own_mono HOB.out HB2.out.size; rw [HPP.out, HPRE.out, HN.out] at this; exact this), HBR.out⟩
set_option maxHeartbeats 8000000 in
theorem rput8_7 (mn mc : Nat) (ids : List (List UInt8)) (t : Txs.Tx) (A A1 A2 : Option Addr) (c c1 c2 B : Nat) (w : World) (h : MsgAt w B ⟨7, mn, mc, ids, t⟩ A c A1 c1 A2 c2) (hB : B ≤ w.heap.size) :
    Calls Tryd.prog 14 #[msgV ⟨7, mn, mc, ids, t⟩ A c A1 c1 A2 c2] w fun e w' => PutOut w w' (Msgs.put ⟨7, mn, mc, ids, t⟩) e := by
  have hok := h.ok
  have hmn : mn < 18446744073709551616 := hok.n
  have hmc : mc < 4294967296 := hok.code
  have hs : Msgs.shp 7 = Msgs.shN 7 := rfl
  have hkn : Msgs.known 7 = true := rfl
  have HOKI := Lib.hid hok.ids
  have HI := Lib.hid h.ids
  have HE1 := Lib.hid (show (mn ≠ 0) → Msgs.put ⟨7, mn, mc, ids, t⟩ = ([], [], 2) from by
    intro  g
    simp [Msgs.put, Msgs.errOf, Msgs.misfit, hs, hkn, Msgs.shN, Msgs.body, Oct.le, g])
  have HE2 := Lib.hid (show (mc ≠ 0) → Msgs.put ⟨7, mn, mc, ids, t⟩ = ([], [], 2) from by
    intro  g
    simp [Msgs.put, Msgs.errOf, Msgs.misfit, hs, hkn, Msgs.shN, Msgs.body, Oct.le, g])
  have HE4 := Lib.hid (show (t ≠ Txs.none) → Msgs.put ⟨7, mn, mc, ids, t⟩ = ([], [], 2) from by
    intro  g
    simp [Msgs.put, Msgs.errOf, Msgs.misfit, hs, hkn, Msgs.shN, Msgs.body, Oct.le, g])
  have HE5 := Lib.hid (show (mn = 0) → (mc = 0) → (t = Txs.none) → (ids = []) → Msgs.put ⟨7, mn, mc, ids, t⟩ = ([], [], 9) from by
    intro g0 g1 g2 g
    simp [Msgs.put, Msgs.errOf, Msgs.misfit, hs, hkn, Msgs.shN, Msgs.body, Oct.le, g, g0, g1, g2])
  have HE6 := Lib.hid (show (mn = 0) → (mc = 0) → (t = Txs.none) → (ids ≠ []) → (32 < ids.length) → Msgs.put ⟨7, mn, mc, ids, t⟩ = ([], [], 5) from by
    intro g0 g1 g2 g3 g
    simp [Msgs.put, Msgs.errOf, Msgs.misfit, hs, hkn, Msgs.shN, Msgs.body, Oct.le, g, g0, g1, g2, g3])
  have HF := Lib.hid (show (mn = 0) → (mc = 0) → (t = Txs.none) → (ids ≠ []) → (ids.length ≤ 32) → Msgs.put ⟨7, mn, mc, ids, t⟩ = ((Msgs.shp 7).cmd, (Oct.var ids.length) ++ ids.flatten, 0) from by
    intro g0 g1 g2 g3 g4
    have e0 : Msgs.errOf ⟨7, mn, mc, ids, t⟩ = 0 := by simp [Msgs.errOf, Msgs.misfit, hs, hkn, Msgs.shN, g0, g1, g2, g3, g4] <;> omega
    unfold Msgs.put
    rw [if_neg (by simp [e0]), if_neg (by simp [hs, Msgs.shN])]
    simp [Msgs.body, hs, Msgs.shN, g0, g1, g2, g3, g4, Oct.le])
  have HTX2 := Lib.hid (fun W (hb : Below w.heap.size w W) => show TxAt W w.heap.size t A1 c1 A2 c2 from (h.tx.below (hb.mono hB)).mono hB)
  have HOKT := Lib.hid hok.tx
  have HNAME := Lib.hid (fun W => name_yes 7 hkn W)
  obtain ⟨str, hstr⟩ : ∃ str, str = (⟨(Msgs.shp 7).cmd.toArray⟩ : ByteArray) := ⟨_, rfl⟩
  have hne : str.toList.isEmpty = false := by rw [str_empty, hstr]; decide
  rw [← hstr] at HNAME
  have HSTR := Lib.hid hstr
  obtain ⟨w1, ms, hms, hv, hms7, hw1, hb1, hz1, hk1⟩ := msg_box w ⟨7, mn, mc, ids, t⟩ A A1 A2 c c1 c2
  have HB1 := Lib.hid hb1
  have HK1 := Lib.hid hk1
  rw [hv]
  rw [hms] at hw1
  simp only at hw1
  obtain ⟨n, hn⟩ : ∃ n, n = ids.length := ⟨_, rfl⟩
  rw [← hn] at hms hw1
  have HMS := Lib.hid hms
  have HN := Lib.hid hn
  rw [hms]
  have hz1' : w.heap.size + 1 ≤ w1.heap.size := by omega
  clear hn hms hms7 hb1 hk1 hz1 hv hstr h hok hs hkn
  obtain ⟨i0, hi, hz0, hz1, hz2⟩ := info_parts byte_info
  have Hi := Lib.hid hi
  have Hz := Lib.hid hz0
  have Hz1 := Lib.hid hz1
  have Hz2 := Lib.hid hz2
  clear hi hz0 hz1 hz2
  obtain ⟨zs, hzs⟩ : ∃ zs, zs = bytesArr (List.replicate 32 (0 : UInt8)) := ⟨_, rfl⟩
  have HZH := Lib.hid (show (Tryd.prog.info? 49).map (·.zero) = some (some (.agg zs)) by rw [hzs]; exact zero_hash)
  have HZHL := Lib.hid (show zs.size = 32 by rw [hzs]; simp [bytesArr])
  clear hzs
  go_enter Tryd.func14, Tryd.ntmps14
  go_upto_region 1 with (fail)
  rw [← hw1]
  clear hw1
  have m0 : w1.cell? ⟨w.heap.size, 0, none⟩ = some (.int .i64 7) := by rw [HK1.out.cell, HMS.out]; rfl
  have m1 : w1.cell? ⟨w.heap.size, 1, none⟩ = some (.int .u64 (mn : Int)) := by rw [HK1.out.cell, HMS.out]; rfl
  have m2 : w1.cell? ⟨w.heap.size, 2, none⟩ = some (.int .u32 (mc : Int)) := by rw [HK1.out.cell, HMS.out]; rfl
  have m3 : w1.cell? ⟨w.heap.size, 3, none⟩ = some (.slice A n c) := by rw [HK1.out.cell, HMS.out]; rfl
  have m4 : w1.cell? ⟨w.heap.size, 4, none⟩ = some (.int .u32 (t.version : Int)) := by rw [HK1.out.cell, HMS.out]; rfl
  have m5 : w1.cell? ⟨w.heap.size, 5, none⟩ = some (.slice A1 t.ins.length c1) := by rw [HK1.out.cell, HMS.out]; rfl
  have m6 : w1.cell? ⟨w.heap.size, 6, none⟩ = some (.slice A2 t.outs.length c2) := by rw [HK1.out.cell, HMS.out]; rfl
  go_wp2_with fail
  refine (HNAME.out w1).mono ?_
  rintro e wq ⟨rfl, rfl⟩
  go_wp2_with fail
  refine (rusesN_7 w1).mono ?_
  rintro e wq ⟨rfl, rfl⟩
  by_cases h1 : mn = 0
  rotate_left
  focus
    have e1 : ((mn : Int) != 0) = true := by rw [bne_iff_ne]; omega
    have H1 := Lib.hid h1
    clear h1
    go_wp2_with fail
    go_ret3
    rw [HE1.out H1.out]
    exact ⟨.slice none 0 0, rfl, own_nil _ _, HB1.out⟩
  have e1 : ((mn : Int) != 0) = false := by rw [h1]; rfl
  have H1 := Lib.hid h1
  clear h1
  go_wp2_with fail
  refine (rusesCode_7 w1).mono ?_
  rintro e wq ⟨rfl, rfl⟩
  clear e1
  by_cases h2 : mc = 0
  rotate_left
  focus
    have e2 : ((mc : Int) != 0) = true := by rw [bne_iff_ne]; omega
    have H2 := Lib.hid h2
    clear h2
    go_wp2_with fail
    go_ret3
    rw [HE2.out H2.out]
    exact ⟨.slice none 0 0, rfl, own_nil _ _, HB1.out⟩
  have e2 : ((mc : Int) != 0) = false := by rw [h2]; rfl
  have H2 := Lib.hid h2
  clear h2
  go_wp2_with fail
  refine (rusesIds_7 w1).mono ?_
  rintro e wq ⟨rfl, rfl⟩
  clear e2
  go_wp2_with fail
  refine (rusesTx_7 w1).mono ?_
  rintro e wq ⟨rfl, rfl⟩
  go_wp2_with fail
  refine (bare_any t A1 A2 c1 c2 w1).mono ?_
  rintro e w2 ⟨rfl, hb2⟩
  have HB2 := Lib.hid (HB1.out.trans (hb2.mono HB1.out.size))
  have HK2 := Lib.hid (HK1.out.below hb2 HK1.out.lt)
  have hz2 : w.heap.size + 1 ≤ w2.heap.size := by have := hb2.size; omega
  clear hb2
  clear m0 m1 m2 m3 m4 m5 m6
  have m0 : w2.cell? ⟨w.heap.size, 0, none⟩ = some (.int .i64 7) := by rw [HK2.out.cell, HMS.out]; rfl
  have m1 : w2.cell? ⟨w.heap.size, 1, none⟩ = some (.int .u64 (mn : Int)) := by rw [HK2.out.cell, HMS.out]; rfl
  have m2 : w2.cell? ⟨w.heap.size, 2, none⟩ = some (.int .u32 (mc : Int)) := by rw [HK2.out.cell, HMS.out]; rfl
  have m3 : w2.cell? ⟨w.heap.size, 3, none⟩ = some (.slice A n c) := by rw [HK2.out.cell, HMS.out]; rfl
  have m4 : w2.cell? ⟨w.heap.size, 4, none⟩ = some (.int .u32 (t.version : Int)) := by rw [HK2.out.cell, HMS.out]; rfl
  have m5 : w2.cell? ⟨w.heap.size, 5, none⟩ = some (.slice A1 t.ins.length c1) := by rw [HK2.out.cell, HMS.out]; rfl
  have m6 : w2.cell? ⟨w.heap.size, 6, none⟩ = some (.slice A2 t.outs.length c2) := by rw [HK2.out.cell, HMS.out]; rfl
  by_cases h4 : t = Txs.none
  rotate_left
  focus
    rw [decide_eq_false h4]
    have H4 := Lib.hid h4
    clear h4
    go_wp2_with fail
    go_ret3
    rw [HE4.out H4.out]
    exact ⟨.slice none 0 0, rfl, own_nil _ _, HB2.out⟩
  rw [decide_eq_true h4]
  have H4 := Lib.hid h4
  clear h4
  go_wp2_with fail
  refine (rusesIds_7 w2).mono ?_
  rintro e wq ⟨rfl, rfl⟩
  by_cases h5 : n = 0
  focus
    have e5 : ((n : Int) == 0) = true := by rw [h5]; rfl
    have H5 := Lib.hid (show ids = [] from List.length_eq_zero_iff.1 (HN.out.symm.trans h5))
    clear h5
    go_wp2_with fail
    go_ret3
    rw [HE5.out H1.out H2.out H4.out H5.out]
    exact ⟨.slice none 0 0, rfl, own_nil _ _, HB2.out⟩
  have e5 : ((n : Int) == 0) = false := by rw [beq_eq_false_iff_ne]; omega
  have H5 := Lib.hid (show ids ≠ [] from fun e => h5 (by rw [HN.out, e]; rfl))
  by_cases h6 : 32 < n
  focus
    have e6 : (32 : Int) < (n : Int) := by omega
    have H6 := Lib.hid (show 32 < ids.length by rw [← HN.out]; exact h6)
    clear h5 h6
    go_wp2_with fail
    go_ret3
    rw [HE6.out H1.out H2.out H4.out H5.out H6.out]
    exact ⟨.slice none 0 0, rfl, own_nil _ _, HB2.out⟩
  have e6 : ¬ (32 : Int) < (n : Int) := by omega
  have H6 := Lib.hid (show ids.length ≤ 32 by rw [← HN.out]; omega)
  have hn32 : n ≤ 32 := by omega
  go_wp2_with fail
  refine (rusesN_7 w2).mono ?_
  rintro e wq ⟨rfl, rfl⟩
  go_wp2_with fail
  refine (rcounted_7 w2).mono ?_
  rintro e wq ⟨rfl, rfl⟩
  go_wp2_with fail
  refine (rvar_any n (by unfold U64; omega) w2).mono ?_
  rintro e w3a ⟨v3, rfl, ho3, hb3⟩
  obtain ⟨A3, c3, rfl, _, hm3, hat3, _⟩ := OwnB.at_ ho3
  have HSRC3 := Lib.hid (BytesAt.src hat3)
  have HL3a := Lib.hid (show (Oct.var n).length = 1 by rw [Oct.var_length]; unfold Oct.size; rw [if_pos (by omega)])
  have HB3a := Lib.hid hb3
  have hz3a := hb3.size
  clear ho3 hat3 hb3
  rw [HL3a.out]
  go_upto_region 20 with (at_builtin; refine wpList_app _ rfl (.tmp 107) (.tmp 112) _ rfl w2.heap.size 5 i0 _ 1 1 Tryd.underlying33 Hi.out Hz.out Hz1.out Hz2.out rfl (by decide) (.slice none 0 0) ([] : List UInt8).length (([] : List UInt8).map byteV) rfl (own_nil _ _) A3 1 c3 ((Oct.var n).map byteV) rfl (by rw [List.length_map, HL3a.out]) HSRC3.out (oneCell_bytes _) (by simp [maxLen]) (by simp) (by exact hz3a) ?_; intro v4a w4a hrow4 hg4 hat4)
  have HO4a := Lib.hid (show OwnB w4a w2.heap.size v4a (Oct.var n) by
    have := own_app (bs := []) hrow4 rfl HL3a.out.symm
    rwa [List.nil_append] at this)
  have HG4a := Lib.hid (show Grw w2 w4a (.slice none 0 0) v4a from (Grw.of_below HB3a.out _).trans (Grw.of_app hg4 hat4))
  clear hrow4 hg4 hat4 HSRC3 m0 m1 m2 m3 m4 m5 m6
  have HK4a := Lib.hid (HG4a.out.bk HK2.out (by simp [Value.ownBlock]))
  have hz4a := HG4a.out.kp.size
  have m0 : w4a.cell? ⟨w.heap.size, 0, none⟩ = some (.int .i64 7) := by rw [HK4a.out.1.cell, HMS.out]; rfl
  have m1 : w4a.cell? ⟨w.heap.size, 1, none⟩ = some (.int .u64 (mn : Int)) := by rw [HK4a.out.1.cell, HMS.out]; rfl
  have m2 : w4a.cell? ⟨w.heap.size, 2, none⟩ = some (.int .u32 (mc : Int)) := by rw [HK4a.out.1.cell, HMS.out]; rfl
  have m3 : w4a.cell? ⟨w.heap.size, 3, none⟩ = some (.slice A n c) := by rw [HK4a.out.1.cell, HMS.out]; rfl
  have m4 : w4a.cell? ⟨w.heap.size, 4, none⟩ = some (.int .u32 (t.version : Int)) := by rw [HK4a.out.1.cell, HMS.out]; rfl
  have m5 : w4a.cell? ⟨w.heap.size, 5, none⟩ = some (.slice A1 t.ins.length c1) := by rw [HK4a.out.1.cell, HMS.out]; rfl
  have m6 : w4a.cell? ⟨w.heap.size, 6, none⟩ = some (.slice A2 t.outs.length c2) := by rw [HK4a.out.1.cell, HMS.out]; rfl
  obtain ⟨w4, hw4⟩ : ∃ w4, w4 = w4a := ⟨_, rfl⟩
  obtain ⟨v4, hv4⟩ : ∃ v4, v4 = v4a := ⟨_, rfl⟩
  obtain ⟨pre, hpre⟩ : ∃ pre, pre = Oct.var n := ⟨_, rfl⟩
  have HO4 := HO4a
  have HG4 := HG4a
  have HK4 := HK4a
  rw [← hpre] at HO4
  have HPL : Hid (pre.length ≤ 12) := Lib.hid (by rw [hpre]; simp [Oct.le_length, HL3a.out])
  rw [← hw4, ← hv4] at HO4 HG4
  rw [← hw4] at HK4 m0 m1 m2 m3 m4 m5 m6 ⊢
  rw [← hv4]
  have HPRE := Lib.hid hpre
  clear hpre hw4 hv4
  have hz4 := HG4.out.kp.size
  have HI2 := Lib.hid (show HashesAt w2 B A ids from At.below HI.out (HB2.out.mono hB))
  have hB2 : B ≤ w2.heap.size := by omega
  have hn32' : ids.length ≤ 32 := by rw [← HN.out]; exact hn32
  have HFL := Lib.hid (fun k => flat_take_le ids k HOKI.out hn32')
  clear hn32'
  go_wp2_with fail
  go_loopw [7, 117] (fun v i wr => ∃ k : Nat, k ≤ n ∧ i = .int .i64 (k : Int) ∧ Hid (OwnB wr w2.heap.size v (pre ++ (ids.take k).flatten)) ∧ Hid (Grw w2 wr (.slice none 0 0) v)) (fun _ i _ => n - (intOf i).toNat)
  case atStart => exact ⟨0, Nat.zero_le _, rfl, Lib.hid (by simpa using HO4.out), HG4⟩
  case round =>
    obtain ⟨k, hk, rfl, hob, hgr⟩ := hrel
    have HBL := Lib.hid (hgr.out.below (own_nil w2 w2.heap.size) (Nat.le_refl _) (Nat.le_refl _))
    by_cases hlt : k < n
    · have hlt2 : k < ids.length := by rw [← HN.out]; exact hlt
      obtain ⟨b, off, rfl, hbB, hr, hxl⟩ := HashesAt.range (At.below HI2.out (HBL.out.mono hB2)) hlt2
      have HR := Lib.hid hr
      have HXL := Lib.hid hxl
      have HSN := Lib.hid (flat_snoc ids k hlt2)
      have hpl : (pre ++ (ids.take k).flatten).length ≤ 1036 := by
        rw [List.length_append]
        have := HFL.out k
        have := HPL.out
        omega
      clear hr hxl
      generalize ids[k] = x at *
      obtain ⟨P, hP⟩ : ∃ P, P = pre ++ (ids.take k).flatten := ⟨_, rfl⟩
      rw [← hP] at hob hpl
      have HP := Lib.hid hP
      obtain ⟨cx, hcx⟩ : ∃ cx, cx = x.map byteV := ⟨_, rfl⟩
      have HCX := Lib.hid hcx
      have HCL := Lib.hid (show cx.length = 32 by rw [hcx, List.length_map, HXL.out])
      have HCO := Lib.hid (show ∀ u ∈ cx, u.oneCell' = true by rw [hcx]; exact oneCell_bytes _)
      rw [← hcx] at HR
      have HOWN := Lib.hid (own_below hob.out (Joins.below_alloc1 wr (.cells cx.toArray 49)))
      have HSRC := Lib.hid (Src.new wr cx 49)
      have hws := hgr.out.kp.size
      clear hP hcx
      go_wp2_with (first
        | (refine wpList_elem rfl rfl rfl 49 (.tmp 119) (.tmp 9) (.tmp 120) rfl rfl rfl b (off + k * 32) (by rfl) cx _ HR.out Tryd.underlying49 rfl (by rw [HCL.out]; exact size_hash) zs HZH.out (by rw [HZHL.out, HCL.out]) HCO.out (by rfl) (by rfl) ?_)
        | (at_builtin; refine wpList_app _ rfl (.tmp 121) (.tmp 122) _ rfl w2.heap.size 5 i0 _ 1 1 Tryd.underlying33 Hi.out Hz.out Hz1.out Hz2.out rfl (by decide) u7 P.length (P.map byteV) rfl HOWN.out (some ⟨wr.heap.size, 0, none⟩) 32 32 cx rfl (by rw [HCL.out]) HSRC.out HCO.out (by unfold maxLen; omega) (by omega) (by simp; omega) ?_; intro v5 w5 hrow5 hg5 hat5))
      go_roundw
      case rel =>
        refine ⟨k + 1, by omega, by go_num, Lib.hid ?_, Lib.hid (hgr.out.trans ((Grw.of_below (Joins.below_alloc1 _ _) _).trans (Grw.of_app hg5 hat5)))⟩
        have := own_app hrow5 HCX.out HXL.out.symm
        rw [HSN.out, ← List.append_assoc, ← HP.out]
        exact this
      case measure => simp [intOf]; omega
    · have hkn : k = n := by omega
      have HTK := Lib.hid (show ids.take k = ids from List.take_of_length_le (by rw [hkn, HN.out]; exact Nat.le_refl _))
      have hob' := hob.out
      rw [HTK.out] at hob'
      obtain ⟨P, hP⟩ : ∃ P, P = pre ++ ids.flatten := ⟨_, rfl⟩
      rw [← hP] at hob'
      have HPP := Lib.hid hP
      have HOB := Lib.hid hob'
      have hpl : P.length ≤ 1036 := by
        rw [hP, List.length_append]
        have h1 := HFL.out n
        rw [← hkn, HTK.out] at h1
        have := HPL.out
        omega
      have HGR := hgr
      clear hkn hP hob' hob HTK HO4 HG4 HK4 hgr m0 m1 m2 m3 m4 m5 m6
      have HKR := Lib.hid (HGR.out.bk HK2.out (by simp [Value.ownBlock]))
      have HBR := Lib.hid (HB2.out.trans (HBL.out.mono HB2.out.size))
      have hws := HGR.out.kp.size
      have m0 : wr.cell? ⟨w.heap.size, 0, none⟩ = some (.int .i64 7) := by rw [HKR.out.1.cell, HMS.out]; rfl
      have m1 : wr.cell? ⟨w.heap.size, 1, none⟩ = some (.int .u64 (mn : Int)) := by rw [HKR.out.1.cell, HMS.out]; rfl
      have m2 : wr.cell? ⟨w.heap.size, 2, none⟩ = some (.int .u32 (mc : Int)) := by rw [HKR.out.1.cell, HMS.out]; rfl
      have m3 : wr.cell? ⟨w.heap.size, 3, none⟩ = some (.slice A n c) := by rw [HKR.out.1.cell, HMS.out]; rfl
      have m4 : wr.cell? ⟨w.heap.size, 4, none⟩ = some (.int .u32 (t.version : Int)) := by rw [HKR.out.1.cell, HMS.out]; rfl
      have m5 : wr.cell? ⟨w.heap.size, 5, none⟩ = some (.slice A1 t.ins.length c1) := by rw [HKR.out.1.cell, HMS.out]; rfl
      have m6 : wr.cell? ⟨w.heap.size, 6, none⟩ = some (.slice A2 t.outs.length c2) := by rw [HKR.out.1.cell, HMS.out]; rfl
      go_wp2_with fail
      refine (rusesTx_7 wr).mono ?_
      rintro e wq ⟨rfl, rfl⟩
      go_wp2_with fail
      refine (HNAME.out wr).mono ?_
      rintro e wq ⟨rfl, rfl⟩
      go_wp2_with fail
      go_ret3
      rw [HF.out H1.out H2.out H4.out H5.out H6.out]
      exact ⟨u7, by rw [← HSTR.out]; rfl, (by have := own_mono HOB.out HB2.out.size; rw [HPP.out, HPRE.out, HN.out] at this; exact this), HBR.out⟩
set_option maxHeartbeats 8000000 in
theorem rput8_8 (mn mc : Nat) (ids : List (List UInt8)) (t : Txs.Tx) (A A1 A2 : Option Addr) (c c1 c2 B : Nat) (w : World) (h : MsgAt w B ⟨8, mn, mc, ids, t⟩ A c A1 c1 A2 c2) (hB : B ≤ w.heap.size) :
    Calls Tryd.prog 14 #[msgV ⟨8, mn, mc, ids, t⟩ A c A1 c1 A2 c2] w fun e w' => PutOut w w' (Msgs.put ⟨8, mn, mc, ids, t⟩) e := by
  have hok := h.ok
  have hmn : mn < 18446744073709551616 := hok.n
  have hmc : mc < 4294967296 := hok.code
  have hs : Msgs.shp 8 = Msgs.shN 8 := rfl
  have hkn : Msgs.known 8 = true := rfl
  have HOKI := Lib.hid hok.ids
  have HI := Lib.hid h.ids
  have HE1 := Lib.hid (show (mn ≠ 0) → Msgs.put ⟨8, mn, mc, ids, t⟩ = ([], [], 2) from by
    intro  g
    simp [Msgs.put, Msgs.errOf, Msgs.misfit, hs, hkn, Msgs.shN, Msgs.body, Oct.le, g])
  have HE2 := Lib.hid (show (mc ≠ 0) → Msgs.put ⟨8, mn, mc, ids, t⟩ = ([], [], 2) from by
    intro  g
    simp [Msgs.put, Msgs.errOf, Msgs.misfit, hs, hkn, Msgs.shN, Msgs.body, Oct.le, g])
  have HE3 := Lib.hid (show (ids ≠ []) → Msgs.put ⟨8, mn, mc, ids, t⟩ = ([], [], 2) from by
    intro  g
    simp [Msgs.put, Msgs.errOf, Msgs.misfit, hs, hkn, Msgs.shN, Msgs.body, Oct.le, g])
  have HF := Lib.hid (show (mn = 0) → (mc = 0) → (ids = []) → Txs.form t = true → Msgs.put ⟨8, mn, mc, ids, t⟩ = ((Msgs.shp 8).cmd, Txs.bytes t, 0) from by
    intro g0 g1 g2 g
    simp [Msgs.put, Msgs.errOf, Msgs.misfit, hs, hkn, Msgs.shN, Msgs.body, Oct.le, g, g0, g1, g2])
  have HE8 := Lib.hid (show (mn = 0) → (mc = 0) → (ids = []) → Txs.form t = false → Msgs.put ⟨8, mn, mc, ids, t⟩ = ([], [], 5) from by
    intro g0 g1 g2 g
    simp [Msgs.put, Msgs.errOf, Msgs.misfit, hs, hkn, Msgs.shN, Msgs.body, Oct.le, g, g0, g1, g2])
  have HTX2 := Lib.hid (fun W (hb : Below w.heap.size w W) => show TxAt W w.heap.size t A1 c1 A2 c2 from (h.tx.below (hb.mono hB)).mono hB)
  have HOKT := Lib.hid hok.tx
  have HNAME := Lib.hid (fun W => name_yes 8 hkn W)
  obtain ⟨str, hstr⟩ : ∃ str, str = (⟨(Msgs.shp 8).cmd.toArray⟩ : ByteArray) := ⟨_, rfl⟩
  have hne : str.toList.isEmpty = false := by rw [str_empty, hstr]; decide
  rw [← hstr] at HNAME
  have HSTR := Lib.hid hstr
  obtain ⟨w1, ms, hms, hv, hms7, hw1, hb1, hz1, hk1⟩ := msg_box w ⟨8, mn, mc, ids, t⟩ A A1 A2 c c1 c2
  have HB1 := Lib.hid hb1
  have HK1 := Lib.hid hk1
  rw [hv]
  rw [hms] at hw1
  simp only at hw1
  obtain ⟨n, hn⟩ : ∃ n, n = ids.length := ⟨_, rfl⟩
  rw [← hn] at hms hw1
  have HMS := Lib.hid hms
  have HN := Lib.hid hn
  rw [hms]
  have hz1' : w.heap.size + 1 ≤ w1.heap.size := by omega
  clear hn hms hms7 hb1 hk1 hz1 hv hstr h hok hs hkn
  obtain ⟨i0, hi, hz0, hz1, hz2⟩ := info_parts byte_info
  have Hi := Lib.hid hi
  have Hz := Lib.hid hz0
  have Hz1 := Lib.hid hz1
  have Hz2 := Lib.hid hz2
  clear hi hz0 hz1 hz2
  obtain ⟨zs, hzs⟩ : ∃ zs, zs = bytesArr (List.replicate 32 (0 : UInt8)) := ⟨_, rfl⟩
  have HZH := Lib.hid (show (Tryd.prog.info? 49).map (·.zero) = some (some (.agg zs)) by rw [hzs]; exact zero_hash)
  have HZHL := Lib.hid (show zs.size = 32 by rw [hzs]; simp [bytesArr])
  clear hzs
  go_enter Tryd.func14, Tryd.ntmps14
  go_upto_region 1 with (fail)
  rw [← hw1]
  clear hw1
  have m0 : w1.cell? ⟨w.heap.size, 0, none⟩ = some (.int .i64 8) := by rw [HK1.out.cell, HMS.out]; rfl
  have m1 : w1.cell? ⟨w.heap.size, 1, none⟩ = some (.int .u64 (mn : Int)) := by rw [HK1.out.cell, HMS.out]; rfl
  have m2 : w1.cell? ⟨w.heap.size, 2, none⟩ = some (.int .u32 (mc : Int)) := by rw [HK1.out.cell, HMS.out]; rfl
  have m3 : w1.cell? ⟨w.heap.size, 3, none⟩ = some (.slice A n c) := by rw [HK1.out.cell, HMS.out]; rfl
  have m4 : w1.cell? ⟨w.heap.size, 4, none⟩ = some (.int .u32 (t.version : Int)) := by rw [HK1.out.cell, HMS.out]; rfl
  have m5 : w1.cell? ⟨w.heap.size, 5, none⟩ = some (.slice A1 t.ins.length c1) := by rw [HK1.out.cell, HMS.out]; rfl
  have m6 : w1.cell? ⟨w.heap.size, 6, none⟩ = some (.slice A2 t.outs.length c2) := by rw [HK1.out.cell, HMS.out]; rfl
  go_wp2_with fail
  refine (HNAME.out w1).mono ?_
  rintro e wq ⟨rfl, rfl⟩
  go_wp2_with fail
  refine (rusesN_8 w1).mono ?_
  rintro e wq ⟨rfl, rfl⟩
  by_cases h1 : mn = 0
  rotate_left
  focus
    have e1 : ((mn : Int) != 0) = true := by rw [bne_iff_ne]; omega
    have H1 := Lib.hid h1
    clear h1
    go_wp2_with fail
    go_ret3
    rw [HE1.out H1.out]
    exact ⟨.slice none 0 0, rfl, own_nil _ _, HB1.out⟩
  have e1 : ((mn : Int) != 0) = false := by rw [h1]; rfl
  have H1 := Lib.hid h1
  clear h1
  go_wp2_with fail
  refine (rusesCode_8 w1).mono ?_
  rintro e wq ⟨rfl, rfl⟩
  clear e1
  by_cases h2 : mc = 0
  rotate_left
  focus
    have e2 : ((mc : Int) != 0) = true := by rw [bne_iff_ne]; omega
    have H2 := Lib.hid h2
    clear h2
    go_wp2_with fail
    go_ret3
    rw [HE2.out H2.out]
    exact ⟨.slice none 0 0, rfl, own_nil _ _, HB1.out⟩
  have e2 : ((mc : Int) != 0) = false := by rw [h2]; rfl
  have H2 := Lib.hid h2
  clear h2
  go_wp2_with fail
  refine (rusesIds_8 w1).mono ?_
  rintro e wq ⟨rfl, rfl⟩
  clear e2
  by_cases h3 : n = 0
  rotate_left
  focus
    have e3 : (0 : Int) < (n : Int) := by omega
    have e3n : 0 < n := by omega
    have H3 := Lib.hid (show ids ≠ [] from fun e => h3 (by rw [HN.out, e]; rfl))
    clear h3
    go_wp2_with fail
    go_ret3
    rw [HE3.out H3.out]
    exact ⟨.slice none 0 0, rfl, own_nil _ _, HB1.out⟩
  have H3 := Lib.hid (show ids = [] from List.length_eq_zero_iff.1 (HN.out.symm.trans h3))
  have e3 : ¬ (0 : Int) < (n : Int) := by omega
  have e3n : ¬ 0 < n := by omega
  clear h3
  go_wp2_with fail
  refine (rusesTx_8 w1).mono ?_
  rintro e wq ⟨rfl, rfl⟩
  obtain ⟨w2, hw2⟩ : ∃ w2, w2 = w1 := ⟨_, rfl⟩
  rw [← hw2] at HB1 HK1 m0 m1 m2 m3 m4 m5 m6 hz1' ⊢
  clear hw2
  have HB2 := HB1
  have HK2 := HK1
  have hz2 := hz1'
  go_wp2_with fail
  refine (rusesIds_8 w2).mono ?_
  rintro e wq ⟨rfl, rfl⟩
  have e6 : ¬ (32 : Int) < (n : Int) := by omega
  have hn32 : n ≤ 32 := by omega
  obtain ⟨v4, hv4⟩ : ∃ v4 : Value, v4 = .slice none 0 0 := ⟨_, rfl⟩
  obtain ⟨w4, hw4⟩ : ∃ w4 : World, w4 = w2 := ⟨_, rfl⟩
  obtain ⟨pre, hpre⟩ : ∃ pre : List UInt8, pre = [] := ⟨_, rfl⟩
  have HO4 := Lib.hid (show OwnB w4 w2.heap.size v4 pre by rw [hw4, hv4, hpre]; exact own_nil _ _)
  have HG4 := Lib.hid (show Grw w2 w4 (.slice none 0 0) v4 by rw [hw4, hv4]; exact Grw.refl _ _)
  have HPL := Lib.hid (show pre.length ≤ 12 by rw [hpre]; simp)
  have HK4 := Lib.hid (HG4.out.bk HK2.out (by simp [Value.ownBlock]))
  have HPRE := Lib.hid hpre
  go_wp2_with fail
  refine (rusesN_8 w2).mono ?_
  rintro e wq ⟨rfl, rfl⟩
  go_wp2_with fail
  refine (rcounted_8 w2).mono ?_
  rintro e wq ⟨rfl, rfl⟩
  go_upto_region 20 with (fail)
  rw [← hw4] at m0 m1 m2 m3 m4 m5 m6 ⊢
  rw [← hv4]
  clear hw4 hv4 hpre
  have hz4 := HG4.out.kp.size
  have HI2 := Lib.hid (show HashesAt w2 B A ids from At.below HI.out (HB2.out.mono hB))
  have hB2 : B ≤ w2.heap.size := by omega
  have hn32' : ids.length ≤ 32 := by rw [← HN.out]; exact hn32
  have HFL := Lib.hid (fun k => flat_take_le ids k HOKI.out hn32')
  clear hn32'
  go_wp2_with fail
  go_loopw [7, 117] (fun v i wr => ∃ k : Nat, k ≤ n ∧ i = .int .i64 (k : Int) ∧ Hid (OwnB wr w2.heap.size v (pre ++ (ids.take k).flatten)) ∧ Hid (Grw w2 wr (.slice none 0 0) v)) (fun _ i _ => n - (intOf i).toNat)
  case atStart => exact ⟨0, Nat.zero_le _, rfl, Lib.hid (by simpa using HO4.out), HG4⟩
  case round =>
    obtain ⟨k, hk, rfl, hob, hgr⟩ := hrel
    have HBL := Lib.hid (hgr.out.below (own_nil w2 w2.heap.size) (Nat.le_refl _) (Nat.le_refl _))
    by_cases hlt : k < n
    · exfalso; omega
    · have hkn : k = n := by omega
      have HTK := Lib.hid (show ids.take k = ids from List.take_of_length_le (by rw [hkn, HN.out]; exact Nat.le_refl _))
      have hob' := hob.out
      rw [HTK.out] at hob'
      obtain ⟨P, hP⟩ : ∃ P, P = pre ++ ids.flatten := ⟨_, rfl⟩
      rw [← hP] at hob'
      have HPP := Lib.hid hP
      have HOB := Lib.hid hob'
      have hpl : P.length ≤ 1036 := by
        rw [hP, List.length_append]
        have h1 := HFL.out n
        rw [← hkn, HTK.out] at h1
        have := HPL.out
        omega
      have HGR := hgr
      clear hkn hP hob' hob HTK HO4 HG4 HK4 hgr m0 m1 m2 m3 m4 m5 m6
      have HKR := Lib.hid (HGR.out.bk HK2.out (by simp [Value.ownBlock]))
      have HBR := Lib.hid (HB2.out.trans (HBL.out.mono HB2.out.size))
      have hws := HGR.out.kp.size
      have m0 : wr.cell? ⟨w.heap.size, 0, none⟩ = some (.int .i64 8) := by rw [HKR.out.1.cell, HMS.out]; rfl
      have m1 : wr.cell? ⟨w.heap.size, 1, none⟩ = some (.int .u64 (mn : Int)) := by rw [HKR.out.1.cell, HMS.out]; rfl
      have m2 : wr.cell? ⟨w.heap.size, 2, none⟩ = some (.int .u32 (mc : Int)) := by rw [HKR.out.1.cell, HMS.out]; rfl
      have m3 : wr.cell? ⟨w.heap.size, 3, none⟩ = some (.slice A n c) := by rw [HKR.out.1.cell, HMS.out]; rfl
      have m4 : wr.cell? ⟨w.heap.size, 4, none⟩ = some (.int .u32 (t.version : Int)) := by rw [HKR.out.1.cell, HMS.out]; rfl
      have m5 : wr.cell? ⟨w.heap.size, 5, none⟩ = some (.slice A1 t.ins.length c1) := by rw [HKR.out.1.cell, HMS.out]; rfl
      have m6 : wr.cell? ⟨w.heap.size, 6, none⟩ = some (.slice A2 t.outs.length c2) := by rw [HKR.out.1.cell, HMS.out]; rfl
      go_wp2_with fail
      refine (rusesTx_8 wr).mono ?_
      rintro e wq ⟨rfl, rfl⟩
      have HNIL := Lib.hid (show P = [] by rw [HPP.out, HPRE.out, H3.out]; rfl)
      have HBRW := Lib.hid HBR.out
      cases hf : Txs.form t
      · have HR7 := Lib.hid (rput7_no t A1 A2 c1 c2 w.heap.size wr (HTX2.out wr HBR.out) HBR.out.size hf)
        have HFM := Lib.hid hf
        unfold txV at HR7
        clear hf
        go_wp2_with fail
        refine HR7.out.mono ?_
        rintro e w7 ⟨rfl, hb7⟩
        have HB7 := Lib.hid (HBR.out.trans (hb7.mono HBR.out.size))
        clear hb7 HR7
        go_wp2_with fail
        go_ret3
        rw [HE8.out H1.out H2.out H3.out HFM.out]
        exact ⟨.slice none 0 0, rfl, own_nil _ _, HB7.out⟩
      · have HR7 := Lib.hid (rput7_yes t A1 A2 c1 c2 w.heap.size wr (HTX2.out wr HBR.out) HBR.out.size hf)
        have HFM := Lib.hid hf
        have hbl : (Txs.bytes t).length ≤ 2000 := Txs.bytes_small HOKT.out hf
        unfold txV at HR7
        clear hf
        go_wp2_with fail
        refine HR7.out.mono ?_
        rintro e w7 ⟨v7, rfl, ho7, hb7⟩
        obtain ⟨A7, c7, rfl, hc7, hm7, hat7, -⟩ := ho7.at_
        have HB7 := Lib.hid (HBR.out.trans (hb7.mono HBR.out.size))
        have HSRC7 := Lib.hid (BytesAt.src hat7)
        have HOW := Lib.hid (own_below HOB.out hb7)
        rw [HNIL.out] at HOW
        have HG7 := Lib.hid (HGR.out.trans (Grw.of_below hb7 _))
        have hz7 := hb7.size
        clear hb7 HR7 ho7 hc7 hm7 hat7
        go_wp2_with (at_builtin; refine wpList_app _ rfl (.tmp 148) (.tmp 149) _ rfl w2.heap.size 5 i0 _ 1 1 Tryd.underlying33 Hi.out Hz.out Hz1.out Hz2.out rfl (by decide) u7 ([] : List UInt8).length (([] : List UInt8).map byteV) rfl HOW.out A7 (Txs.bytes t).length c7 ((Txs.bytes t).map byteV) rfl (by rw [List.length_map, Nat.mul_one]) HSRC7.out (oneCell_bytes _) (by simp [maxLen]; omega) (by simp; try omega) (by omega) ?_; intro v8 w8 hrow8 hg8 hat8)
        have HG8 := Lib.hid (HG7.out.trans (Grw.of_app hg8 hat8))
        have HO8 := Lib.hid (own_app (bs := []) hrow8 rfl rfl)
        have HB8 := Lib.hid (HB2.out.trans ((HG8.out.below (own_nil w2 w2.heap.size) (Nat.le_refl _) (Nat.le_refl _)).mono HB2.out.size))
        clear hrow8 hg8 hat8
        refine (HNAME.out w8).mono ?_
        rintro e wq ⟨rfl, rfl⟩
        go_wp2_with fail
        go_ret3
        rw [HF.out H1.out H2.out H3.out HFM.out]
        exact ⟨v8, by rw [← HSTR.out]; rfl, (by have := own_mono HO8.out HB2.out.size; rw [List.nil_append] at this; exact this), HB8.out⟩
set_option maxHeartbeats 8000000 in
theorem rput8_9 (mn mc : Nat) (ids : List (List UInt8)) (t : Txs.Tx) (A A1 A2 : Option Addr) (c c1 c2 B : Nat) (w : World) (h : MsgAt w B ⟨9, mn, mc, ids, t⟩ A c A1 c1 A2 c2) (hB : B ≤ w.heap.size) :
    Calls Tryd.prog 14 #[msgV ⟨9, mn, mc, ids, t⟩ A c A1 c1 A2 c2] w fun e w' => PutOut w w' (Msgs.put ⟨9, mn, mc, ids, t⟩) e := by
  have hok := h.ok
  have hmn : mn < 18446744073709551616 := hok.n
  have hmc : mc < 4294967296 := hok.code
  have hs : Msgs.shp 9 = Msgs.shN 9 := rfl
  have hkn : Msgs.known 9 = true := rfl
  have HOKI := Lib.hid hok.ids
  have HI := Lib.hid h.ids
  have HE1 := Lib.hid (show (mn ≠ 0) → Msgs.put ⟨9, mn, mc, ids, t⟩ = ([], [], 2) from by
    intro  g
    simp [Msgs.put, Msgs.errOf, Msgs.misfit, hs, hkn, Msgs.shN, Msgs.body, Oct.le, g])
  have HE2 := Lib.hid (show (mc ≠ 0) → Msgs.put ⟨9, mn, mc, ids, t⟩ = ([], [], 2) from by
    intro  g
    simp [Msgs.put, Msgs.errOf, Msgs.misfit, hs, hkn, Msgs.shN, Msgs.body, Oct.le, g])
  have HE3 := Lib.hid (show (ids ≠ []) → Msgs.put ⟨9, mn, mc, ids, t⟩ = ([], [], 2) from by
    intro  g
    simp [Msgs.put, Msgs.errOf, Msgs.misfit, hs, hkn, Msgs.shN, Msgs.body, Oct.le, g])
  have HF := Lib.hid (show (mn = 0) → (mc = 0) → (ids = []) → Txs.form t = true → Msgs.put ⟨9, mn, mc, ids, t⟩ = ((Msgs.shp 9).cmd, Txs.bytes t, 0) from by
    intro g0 g1 g2 g
    simp [Msgs.put, Msgs.errOf, Msgs.misfit, hs, hkn, Msgs.shN, Msgs.body, Oct.le, g, g0, g1, g2])
  have HE8 := Lib.hid (show (mn = 0) → (mc = 0) → (ids = []) → Txs.form t = false → Msgs.put ⟨9, mn, mc, ids, t⟩ = ([], [], 5) from by
    intro g0 g1 g2 g
    simp [Msgs.put, Msgs.errOf, Msgs.misfit, hs, hkn, Msgs.shN, Msgs.body, Oct.le, g, g0, g1, g2])
  have HTX2 := Lib.hid (fun W (hb : Below w.heap.size w W) => show TxAt W w.heap.size t A1 c1 A2 c2 from (h.tx.below (hb.mono hB)).mono hB)
  have HOKT := Lib.hid hok.tx
  have HNAME := Lib.hid (fun W => name_yes 9 hkn W)
  obtain ⟨str, hstr⟩ : ∃ str, str = (⟨(Msgs.shp 9).cmd.toArray⟩ : ByteArray) := ⟨_, rfl⟩
  have hne : str.toList.isEmpty = false := by rw [str_empty, hstr]; decide
  rw [← hstr] at HNAME
  have HSTR := Lib.hid hstr
  obtain ⟨w1, ms, hms, hv, hms7, hw1, hb1, hz1, hk1⟩ := msg_box w ⟨9, mn, mc, ids, t⟩ A A1 A2 c c1 c2
  have HB1 := Lib.hid hb1
  have HK1 := Lib.hid hk1
  rw [hv]
  rw [hms] at hw1
  simp only at hw1
  obtain ⟨n, hn⟩ : ∃ n, n = ids.length := ⟨_, rfl⟩
  rw [← hn] at hms hw1
  have HMS := Lib.hid hms
  have HN := Lib.hid hn
  rw [hms]
  have hz1' : w.heap.size + 1 ≤ w1.heap.size := by omega
  clear hn hms hms7 hb1 hk1 hz1 hv hstr h hok hs hkn
  obtain ⟨i0, hi, hz0, hz1, hz2⟩ := info_parts byte_info
  have Hi := Lib.hid hi
  have Hz := Lib.hid hz0
  have Hz1 := Lib.hid hz1
  have Hz2 := Lib.hid hz2
  clear hi hz0 hz1 hz2
  obtain ⟨zs, hzs⟩ : ∃ zs, zs = bytesArr (List.replicate 32 (0 : UInt8)) := ⟨_, rfl⟩
  have HZH := Lib.hid (show (Tryd.prog.info? 49).map (·.zero) = some (some (.agg zs)) by rw [hzs]; exact zero_hash)
  have HZHL := Lib.hid (show zs.size = 32 by rw [hzs]; simp [bytesArr])
  clear hzs
  go_enter Tryd.func14, Tryd.ntmps14
  go_upto_region 1 with (fail)
  rw [← hw1]
  clear hw1
  have m0 : w1.cell? ⟨w.heap.size, 0, none⟩ = some (.int .i64 9) := by rw [HK1.out.cell, HMS.out]; rfl
  have m1 : w1.cell? ⟨w.heap.size, 1, none⟩ = some (.int .u64 (mn : Int)) := by rw [HK1.out.cell, HMS.out]; rfl
  have m2 : w1.cell? ⟨w.heap.size, 2, none⟩ = some (.int .u32 (mc : Int)) := by rw [HK1.out.cell, HMS.out]; rfl
  have m3 : w1.cell? ⟨w.heap.size, 3, none⟩ = some (.slice A n c) := by rw [HK1.out.cell, HMS.out]; rfl
  have m4 : w1.cell? ⟨w.heap.size, 4, none⟩ = some (.int .u32 (t.version : Int)) := by rw [HK1.out.cell, HMS.out]; rfl
  have m5 : w1.cell? ⟨w.heap.size, 5, none⟩ = some (.slice A1 t.ins.length c1) := by rw [HK1.out.cell, HMS.out]; rfl
  have m6 : w1.cell? ⟨w.heap.size, 6, none⟩ = some (.slice A2 t.outs.length c2) := by rw [HK1.out.cell, HMS.out]; rfl
  go_wp2_with fail
  refine (HNAME.out w1).mono ?_
  rintro e wq ⟨rfl, rfl⟩
  go_wp2_with fail
  refine (rusesN_9 w1).mono ?_
  rintro e wq ⟨rfl, rfl⟩
  by_cases h1 : mn = 0
  rotate_left
  focus
    have e1 : ((mn : Int) != 0) = true := by rw [bne_iff_ne]; omega
    have H1 := Lib.hid h1
    clear h1
    go_wp2_with fail
    go_ret3
    rw [HE1.out H1.out]
    exact ⟨.slice none 0 0, rfl, own_nil _ _, HB1.out⟩
  have e1 : ((mn : Int) != 0) = false := by rw [h1]; rfl
  have H1 := Lib.hid h1
  clear h1
  go_wp2_with fail
  refine (rusesCode_9 w1).mono ?_
  rintro e wq ⟨rfl, rfl⟩
  clear e1
  by_cases h2 : mc = 0
  rotate_left
  focus
    have e2 : ((mc : Int) != 0) = true := by rw [bne_iff_ne]; omega
    have H2 := Lib.hid h2
    clear h2
    go_wp2_with fail
    go_ret3
    rw [HE2.out H2.out]
    exact ⟨.slice none 0 0, rfl, own_nil _ _, HB1.out⟩
  have e2 : ((mc : Int) != 0) = false := by rw [h2]; rfl
  have H2 := Lib.hid h2
  clear h2
  go_wp2_with fail
  refine (rusesIds_9 w1).mono ?_
  rintro e wq ⟨rfl, rfl⟩
  clear e2
  by_cases h3 : n = 0
  rotate_left
  focus
    have e3 : (0 : Int) < (n : Int) := by omega
    have e3n : 0 < n := by omega
    have H3 := Lib.hid (show ids ≠ [] from fun e => h3 (by rw [HN.out, e]; rfl))
    clear h3
    go_wp2_with fail
    go_ret3
    rw [HE3.out H3.out]
    exact ⟨.slice none 0 0, rfl, own_nil _ _, HB1.out⟩
  have H3 := Lib.hid (show ids = [] from List.length_eq_zero_iff.1 (HN.out.symm.trans h3))
  have e3 : ¬ (0 : Int) < (n : Int) := by omega
  have e3n : ¬ 0 < n := by omega
  clear h3
  go_wp2_with fail
  refine (rusesTx_9 w1).mono ?_
  rintro e wq ⟨rfl, rfl⟩
  obtain ⟨w2, hw2⟩ : ∃ w2, w2 = w1 := ⟨_, rfl⟩
  rw [← hw2] at HB1 HK1 m0 m1 m2 m3 m4 m5 m6 hz1' ⊢
  clear hw2
  have HB2 := HB1
  have HK2 := HK1
  have hz2 := hz1'
  go_wp2_with fail
  refine (rusesIds_9 w2).mono ?_
  rintro e wq ⟨rfl, rfl⟩
  have e6 : ¬ (32 : Int) < (n : Int) := by omega
  have hn32 : n ≤ 32 := by omega
  obtain ⟨v4, hv4⟩ : ∃ v4 : Value, v4 = .slice none 0 0 := ⟨_, rfl⟩
  obtain ⟨w4, hw4⟩ : ∃ w4 : World, w4 = w2 := ⟨_, rfl⟩
  obtain ⟨pre, hpre⟩ : ∃ pre : List UInt8, pre = [] := ⟨_, rfl⟩
  have HO4 := Lib.hid (show OwnB w4 w2.heap.size v4 pre by rw [hw4, hv4, hpre]; exact own_nil _ _)
  have HG4 := Lib.hid (show Grw w2 w4 (.slice none 0 0) v4 by rw [hw4, hv4]; exact Grw.refl _ _)
  have HPL := Lib.hid (show pre.length ≤ 12 by rw [hpre]; simp)
  have HK4 := Lib.hid (HG4.out.bk HK2.out (by simp [Value.ownBlock]))
  have HPRE := Lib.hid hpre
  go_wp2_with fail
  refine (rusesN_9 w2).mono ?_
  rintro e wq ⟨rfl, rfl⟩
  go_wp2_with fail
  refine (rcounted_9 w2).mono ?_
  rintro e wq ⟨rfl, rfl⟩
  go_upto_region 20 with (fail)
  rw [← hw4] at m0 m1 m2 m3 m4 m5 m6 ⊢
  rw [← hv4]
  clear hw4 hv4 hpre
  have hz4 := HG4.out.kp.size
  have HI2 := Lib.hid (show HashesAt w2 B A ids from At.below HI.out (HB2.out.mono hB))
  have hB2 : B ≤ w2.heap.size := by omega
  have hn32' : ids.length ≤ 32 := by rw [← HN.out]; exact hn32
  have HFL := Lib.hid (fun k => flat_take_le ids k HOKI.out hn32')
  clear hn32'
  go_wp2_with fail
  go_loopw [7, 117] (fun v i wr => ∃ k : Nat, k ≤ n ∧ i = .int .i64 (k : Int) ∧ Hid (OwnB wr w2.heap.size v (pre ++ (ids.take k).flatten)) ∧ Hid (Grw w2 wr (.slice none 0 0) v)) (fun _ i _ => n - (intOf i).toNat)
  case atStart => exact ⟨0, Nat.zero_le _, rfl, Lib.hid (by simpa using HO4.out), HG4⟩
  case round =>
    obtain ⟨k, hk, rfl, hob, hgr⟩ := hrel
    have HBL := Lib.hid (hgr.out.below (own_nil w2 w2.heap.size) (Nat.le_refl _) (Nat.le_refl _))
    by_cases hlt : k < n
    · exfalso; omega
    · have hkn : k = n := by omega
      have HTK := Lib.hid (show ids.take k = ids from List.take_of_length_le (by rw [hkn, HN.out]; exact Nat.le_refl _))
      have hob' := hob.out
      rw [HTK.out] at hob'
      obtain ⟨P, hP⟩ : ∃ P, P = pre ++ ids.flatten := ⟨_, rfl⟩
      rw [← hP] at hob'
      have HPP := Lib.hid hP
      have HOB := Lib.hid hob'
      have hpl : P.length ≤ 1036 := by
        rw [hP, List.length_append]
        have h1 := HFL.out n
        rw [← hkn, HTK.out] at h1
        have := HPL.out
        omega
      have HGR := hgr
      clear hkn hP hob' hob HTK HO4 HG4 HK4 hgr m0 m1 m2 m3 m4 m5 m6
      have HKR := Lib.hid (HGR.out.bk HK2.out (by simp [Value.ownBlock]))
      have HBR := Lib.hid (HB2.out.trans (HBL.out.mono HB2.out.size))
      have hws := HGR.out.kp.size
      have m0 : wr.cell? ⟨w.heap.size, 0, none⟩ = some (.int .i64 9) := by rw [HKR.out.1.cell, HMS.out]; rfl
      have m1 : wr.cell? ⟨w.heap.size, 1, none⟩ = some (.int .u64 (mn : Int)) := by rw [HKR.out.1.cell, HMS.out]; rfl
      have m2 : wr.cell? ⟨w.heap.size, 2, none⟩ = some (.int .u32 (mc : Int)) := by rw [HKR.out.1.cell, HMS.out]; rfl
      have m3 : wr.cell? ⟨w.heap.size, 3, none⟩ = some (.slice A n c) := by rw [HKR.out.1.cell, HMS.out]; rfl
      have m4 : wr.cell? ⟨w.heap.size, 4, none⟩ = some (.int .u32 (t.version : Int)) := by rw [HKR.out.1.cell, HMS.out]; rfl
      have m5 : wr.cell? ⟨w.heap.size, 5, none⟩ = some (.slice A1 t.ins.length c1) := by rw [HKR.out.1.cell, HMS.out]; rfl
      have m6 : wr.cell? ⟨w.heap.size, 6, none⟩ = some (.slice A2 t.outs.length c2) := by rw [HKR.out.1.cell, HMS.out]; rfl
      go_wp2_with fail
      refine (rusesTx_9 wr).mono ?_
      rintro e wq ⟨rfl, rfl⟩
      have HNIL := Lib.hid (show P = [] by rw [HPP.out, HPRE.out, H3.out]; rfl)
      have HBRW := Lib.hid HBR.out
      cases hf : Txs.form t
      · have HR7 := Lib.hid (rput7_no t A1 A2 c1 c2 w.heap.size wr (HTX2.out wr HBR.out) HBR.out.size hf)
        have HFM := Lib.hid hf
        unfold txV at HR7
        clear hf
        go_wp2_with fail
        refine HR7.out.mono ?_
        rintro e w7 ⟨rfl, hb7⟩
        have HB7 := Lib.hid (HBR.out.trans (hb7.mono HBR.out.size))
        clear hb7 HR7
        go_wp2_with fail
        go_ret3
        rw [HE8.out H1.out H2.out H3.out HFM.out]
        exact ⟨.slice none 0 0, rfl, own_nil _ _, HB7.out⟩
      · have HR7 := Lib.hid (rput7_yes t A1 A2 c1 c2 w.heap.size wr (HTX2.out wr HBR.out) HBR.out.size hf)
        have HFM := Lib.hid hf
        have hbl : (Txs.bytes t).length ≤ 2000 := Txs.bytes_small HOKT.out hf
        unfold txV at HR7
        clear hf
        go_wp2_with fail
        refine HR7.out.mono ?_
        rintro e w7 ⟨v7, rfl, ho7, hb7⟩
        obtain ⟨A7, c7, rfl, hc7, hm7, hat7, -⟩ := ho7.at_
        have HB7 := Lib.hid (HBR.out.trans (hb7.mono HBR.out.size))
        have HSRC7 := Lib.hid (BytesAt.src hat7)
        have HOW := Lib.hid (own_below HOB.out hb7)
        rw [HNIL.out] at HOW
        have HG7 := Lib.hid (HGR.out.trans (Grw.of_below hb7 _))
        have hz7 := hb7.size
        clear hb7 HR7 ho7 hc7 hm7 hat7
        go_wp2_with (at_builtin; refine wpList_app _ rfl (.tmp 148) (.tmp 149) _ rfl w2.heap.size 5 i0 _ 1 1 Tryd.underlying33 Hi.out Hz.out Hz1.out Hz2.out rfl (by decide) u7 ([] : List UInt8).length (([] : List UInt8).map byteV) rfl HOW.out A7 (Txs.bytes t).length c7 ((Txs.bytes t).map byteV) rfl (by rw [List.length_map, Nat.mul_one]) HSRC7.out (oneCell_bytes _) (by simp [maxLen]; omega) (by simp; try omega) (by omega) ?_; intro v8 w8 hrow8 hg8 hat8)
        have HG8 := Lib.hid (HG7.out.trans (Grw.of_app hg8 hat8))
        have HO8 := Lib.hid (own_app (bs := []) hrow8 rfl rfl)
        have HB8 := Lib.hid (HB2.out.trans ((HG8.out.below (own_nil w2 w2.heap.size) (Nat.le_refl _) (Nat.le_refl _)).mono HB2.out.size))
        clear hrow8 hg8 hat8
        refine (HNAME.out w8).mono ?_
        rintro e wq ⟨rfl, rfl⟩
        go_wp2_with fail
        go_ret3
        rw [HF.out H1.out H2.out H3.out HFM.out]
        exact ⟨v8, by rw [← HSTR.out]; rfl, (by have := own_mono HO8.out HB2.out.size; rw [List.nil_append] at this; exact this), HB8.out⟩
set_option maxHeartbeats 8000000 in
theorem rput8_10 (mn mc : Nat) (ids : List (List UInt8)) (t : Txs.Tx) (A A1 A2 : Option Addr) (c c1 c2 B : Nat) (w : World) (h : MsgAt w B ⟨10, mn, mc, ids, t⟩ A c A1 c1 A2 c2) (hB : B ≤ w.heap.size) :
    Calls Tryd.prog 14 #[msgV ⟨10, mn, mc, ids, t⟩ A c A1 c1 A2 c2] w fun e w' => PutOut w w' (Msgs.put ⟨10, mn, mc, ids, t⟩) e := by
  have hok := h.ok
  have hmn : mn < 18446744073709551616 := hok.n
  have hmc : mc < 4294967296 := hok.code
  have hs : Msgs.shp 10 = Msgs.shN 10 := rfl
  have hkn : Msgs.known 10 = true := rfl
  have HOKI := Lib.hid hok.ids
  have HI := Lib.hid h.ids
  have HE1 := Lib.hid (show (mn ≠ 0) → Msgs.put ⟨10, mn, mc, ids, t⟩ = ([], [], 2) from by
    intro  g
    simp [Msgs.put, Msgs.errOf, Msgs.misfit, hs, hkn, Msgs.shN, Msgs.body, Oct.le, g])
  have HE4 := Lib.hid (show (t ≠ Txs.none) → Msgs.put ⟨10, mn, mc, ids, t⟩ = ([], [], 2) from by
    intro  g
    simp [Msgs.put, Msgs.errOf, Msgs.misfit, hs, hkn, Msgs.shN, Msgs.body, Oct.le, g])
  have HE5 := Lib.hid (show (mn = 0) → (t = Txs.none) → (ids = []) → Msgs.put ⟨10, mn, mc, ids, t⟩ = ([], [], 9) from by
    intro g0 g1 g
    simp [Msgs.put, Msgs.errOf, Msgs.misfit, hs, hkn, Msgs.shN, Msgs.body, Oct.le, g, g0, g1])
  have HE6 := Lib.hid (show (mn = 0) → (t = Txs.none) → (ids ≠ []) → (1 < ids.length) → Msgs.put ⟨10, mn, mc, ids, t⟩ = ([], [], 5) from by
    intro g0 g1 g2 g
    simp [Msgs.put, Msgs.errOf, Msgs.misfit, hs, hkn, Msgs.shN, Msgs.body, Oct.le, g, g0, g1, g2])
  have HE7 := Lib.hid (show (mn = 0) → (t = Txs.none) → (ids ≠ []) → (ids.length ≤ 1) → (255 < mc) → Msgs.put ⟨10, mn, mc, ids, t⟩ = ([], [], 3) from by
    intro g0 g1 g2 g3 g
    simp [Msgs.put, Msgs.errOf, Msgs.misfit, hs, hkn, Msgs.shN, Msgs.body, Oct.le, g, g0, g1, g2, Nat.not_lt.2 g3])
  have HF := Lib.hid (show (mn = 0) → (t = Txs.none) → (ids ≠ []) → (ids.length ≤ 1) → (mc ≤ 255) → Msgs.put ⟨10, mn, mc, ids, t⟩ = ((Msgs.shp 10).cmd, (([] : List UInt8)) ++ ids.flatten ++ Oct.le mc 1, 0) from by
    intro g0 g1 g2 g3 g4
    have e0 : Msgs.errOf ⟨10, mn, mc, ids, t⟩ = 0 := by simp [Msgs.errOf, Msgs.misfit, hs, hkn, Msgs.shN, g0, g1, g2, g3, g4] <;> omega
    unfold Msgs.put
    rw [if_neg (by simp [e0]), if_neg (by simp [hs, Msgs.shN])]
    simp [Msgs.body, hs, Msgs.shN, g0, g1, g2, g3, g4, Oct.le])
  have HTX2 := Lib.hid (fun W (hb : Below w.heap.size w W) => show TxAt W w.heap.size t A1 c1 A2 c2 from (h.tx.below (hb.mono hB)).mono hB)
  have HOKT := Lib.hid hok.tx
  have HNAME := Lib.hid (fun W => name_yes 10 hkn W)
  obtain ⟨str, hstr⟩ : ∃ str, str = (⟨(Msgs.shp 10).cmd.toArray⟩ : ByteArray) := ⟨_, rfl⟩
  have hne : str.toList.isEmpty = false := by rw [str_empty, hstr]; decide
  rw [← hstr] at HNAME
  have HSTR := Lib.hid hstr
  obtain ⟨w1, ms, hms, hv, hms7, hw1, hb1, hz1, hk1⟩ := msg_box w ⟨10, mn, mc, ids, t⟩ A A1 A2 c c1 c2
  have HB1 := Lib.hid hb1
  have HK1 := Lib.hid hk1
  rw [hv]
  rw [hms] at hw1
  simp only at hw1
  obtain ⟨n, hn⟩ : ∃ n, n = ids.length := ⟨_, rfl⟩
  rw [← hn] at hms hw1
  have HMS := Lib.hid hms
  have HN := Lib.hid hn
  rw [hms]
  have hz1' : w.heap.size + 1 ≤ w1.heap.size := by omega
  clear hn hms hms7 hb1 hk1 hz1 hv hstr h hok hs hkn
  obtain ⟨i0, hi, hz0, hz1, hz2⟩ := info_parts byte_info
  have Hi := Lib.hid hi
  have Hz := Lib.hid hz0
  have Hz1 := Lib.hid hz1
  have Hz2 := Lib.hid hz2
  clear hi hz0 hz1 hz2
  obtain ⟨zs, hzs⟩ : ∃ zs, zs = bytesArr (List.replicate 32 (0 : UInt8)) := ⟨_, rfl⟩
  have HZH := Lib.hid (show (Tryd.prog.info? 49).map (·.zero) = some (some (.agg zs)) by rw [hzs]; exact zero_hash)
  have HZHL := Lib.hid (show zs.size = 32 by rw [hzs]; simp [bytesArr])
  clear hzs
  go_enter Tryd.func14, Tryd.ntmps14
  go_upto_region 1 with (fail)
  rw [← hw1]
  clear hw1
  have m0 : w1.cell? ⟨w.heap.size, 0, none⟩ = some (.int .i64 10) := by rw [HK1.out.cell, HMS.out]; rfl
  have m1 : w1.cell? ⟨w.heap.size, 1, none⟩ = some (.int .u64 (mn : Int)) := by rw [HK1.out.cell, HMS.out]; rfl
  have m2 : w1.cell? ⟨w.heap.size, 2, none⟩ = some (.int .u32 (mc : Int)) := by rw [HK1.out.cell, HMS.out]; rfl
  have m3 : w1.cell? ⟨w.heap.size, 3, none⟩ = some (.slice A n c) := by rw [HK1.out.cell, HMS.out]; rfl
  have m4 : w1.cell? ⟨w.heap.size, 4, none⟩ = some (.int .u32 (t.version : Int)) := by rw [HK1.out.cell, HMS.out]; rfl
  have m5 : w1.cell? ⟨w.heap.size, 5, none⟩ = some (.slice A1 t.ins.length c1) := by rw [HK1.out.cell, HMS.out]; rfl
  have m6 : w1.cell? ⟨w.heap.size, 6, none⟩ = some (.slice A2 t.outs.length c2) := by rw [HK1.out.cell, HMS.out]; rfl
  go_wp2_with fail
  refine (HNAME.out w1).mono ?_
  rintro e wq ⟨rfl, rfl⟩
  go_wp2_with fail
  refine (rusesN_10 w1).mono ?_
  rintro e wq ⟨rfl, rfl⟩
  by_cases h1 : mn = 0
  rotate_left
  focus
    have e1 : ((mn : Int) != 0) = true := by rw [bne_iff_ne]; omega
    have H1 := Lib.hid h1
    clear h1
    go_wp2_with fail
    go_ret3
    rw [HE1.out H1.out]
    exact ⟨.slice none 0 0, rfl, own_nil _ _, HB1.out⟩
  have e1 : ((mn : Int) != 0) = false := by rw [h1]; rfl
  have H1 := Lib.hid h1
  clear h1
  go_wp2_with fail
  refine (rusesCode_10 w1).mono ?_
  rintro e wq ⟨rfl, rfl⟩
  clear e1
  go_wp2_with fail
  refine (rusesIds_10 w1).mono ?_
  rintro e wq ⟨rfl, rfl⟩
  go_wp2_with fail
  refine (rusesTx_10 w1).mono ?_
  rintro e wq ⟨rfl, rfl⟩
  go_wp2_with fail
  refine (bare_any t A1 A2 c1 c2 w1).mono ?_
  rintro e w2 ⟨rfl, hb2⟩
  have HB2 := Lib.hid (HB1.out.trans (hb2.mono HB1.out.size))
  have HK2 := Lib.hid (HK1.out.below hb2 HK1.out.lt)
  have hz2 : w.heap.size + 1 ≤ w2.heap.size := by have := hb2.size; omega
  clear hb2
  clear m0 m1 m2 m3 m4 m5 m6
  have m0 : w2.cell? ⟨w.heap.size, 0, none⟩ = some (.int .i64 10) := by rw [HK2.out.cell, HMS.out]; rfl
  have m1 : w2.cell? ⟨w.heap.size, 1, none⟩ = some (.int .u64 (mn : Int)) := by rw [HK2.out.cell, HMS.out]; rfl
  have m2 : w2.cell? ⟨w.heap.size, 2, none⟩ = some (.int .u32 (mc : Int)) := by rw [HK2.out.cell, HMS.out]; rfl
  have m3 : w2.cell? ⟨w.heap.size, 3, none⟩ = some (.slice A n c) := by rw [HK2.out.cell, HMS.out]; rfl
  have m4 : w2.cell? ⟨w.heap.size, 4, none⟩ = some (.int .u32 (t.version : Int)) := by rw [HK2.out.cell, HMS.out]; rfl
  have m5 : w2.cell? ⟨w.heap.size, 5, none⟩ = some (.slice A1 t.ins.length c1) := by rw [HK2.out.cell, HMS.out]; rfl
  have m6 : w2.cell? ⟨w.heap.size, 6, none⟩ = some (.slice A2 t.outs.length c2) := by rw [HK2.out.cell, HMS.out]; rfl
  by_cases h4 : t = Txs.none
  rotate_left
  focus
    rw [decide_eq_false h4]
    have H4 := Lib.hid h4
    clear h4
    go_wp2_with fail
    go_ret3
    rw [HE4.out H4.out]
    exact ⟨.slice none 0 0, rfl, own_nil _ _, HB2.out⟩
  rw [decide_eq_true h4]
  have H4 := Lib.hid h4
  clear h4
  go_wp2_with fail
  refine (rusesIds_10 w2).mono ?_
  rintro e wq ⟨rfl, rfl⟩
  by_cases h5 : n = 0
  focus
    have e5 : ((n : Int) == 0) = true := by rw [h5]; rfl
    have H5 := Lib.hid (show ids = [] from List.length_eq_zero_iff.1 (HN.out.symm.trans h5))
    clear h5
    go_wp2_with fail
    go_ret3
    rw [HE5.out H1.out H4.out H5.out]
    exact ⟨.slice none 0 0, rfl, own_nil _ _, HB2.out⟩
  have e5 : ((n : Int) == 0) = false := by rw [beq_eq_false_iff_ne]; omega
  have H5 := Lib.hid (show ids ≠ [] from fun e => h5 (by rw [HN.out, e]; rfl))
  by_cases h6 : 1 < n
  focus
    have e6 : (1 : Int) < (n : Int) := by omega
    have H6 := Lib.hid (show 1 < ids.length by rw [← HN.out]; exact h6)
    clear h5 h6
    go_wp2_with fail
    go_ret3
    rw [HE6.out H1.out H4.out H5.out H6.out]
    exact ⟨.slice none 0 0, rfl, own_nil _ _, HB2.out⟩
  have e6 : ¬ (1 : Int) < (n : Int) := by omega
  have H6 := Lib.hid (show ids.length ≤ 1 by rw [← HN.out]; omega)
  by_cases h7 : 255 < mc
  focus
    have e7 : (255 : Int) < (mc : Int) := by omega
    have H7 := Lib.hid h7
    go_wp2_with fail
    go_ret3
    rw [HE7.out H1.out H4.out H5.out H6.out H7.out]
    exact ⟨.slice none 0 0, rfl, own_nil _ _, HB2.out⟩
  have e7 : ¬ (255 : Int) < (mc : Int) := by omega
  have H7 := Lib.hid (show mc ≤ 255 by omega)
  have hn32 : n ≤ 32 := by omega
  obtain ⟨v4, hv4⟩ : ∃ v4 : Value, v4 = .slice none 0 0 := ⟨_, rfl⟩
  obtain ⟨w4, hw4⟩ : ∃ w4 : World, w4 = w2 := ⟨_, rfl⟩
  obtain ⟨pre, hpre⟩ : ∃ pre : List UInt8, pre = [] := ⟨_, rfl⟩
  have HO4 := Lib.hid (show OwnB w4 w2.heap.size v4 pre by rw [hw4, hv4, hpre]; exact own_nil _ _)
  have HG4 := Lib.hid (show Grw w2 w4 (.slice none 0 0) v4 by rw [hw4, hv4]; exact Grw.refl _ _)
  have HPL := Lib.hid (show pre.length ≤ 12 by rw [hpre]; simp)
  have HK4 := Lib.hid (HG4.out.bk HK2.out (by simp [Value.ownBlock]))
  have HPRE := Lib.hid hpre
  go_wp2_with fail
  refine (rusesN_10 w2).mono ?_
  rintro e wq ⟨rfl, rfl⟩
  go_wp2_with fail
  refine (rcounted_10 w2).mono ?_
  rintro e wq ⟨rfl, rfl⟩
  go_upto_region 20 with (fail)
  rw [← hw4] at m0 m1 m2 m3 m4 m5 m6 ⊢
  rw [← hv4]
  clear hw4 hv4 hpre
  have hz4 := HG4.out.kp.size
  have HI2 := Lib.hid (show HashesAt w2 B A ids from At.below HI.out (HB2.out.mono hB))
  have hB2 : B ≤ w2.heap.size := by omega
  have hn32' : ids.length ≤ 32 := by rw [← HN.out]; exact hn32
  have HFL := Lib.hid (fun k => flat_take_le ids k HOKI.out hn32')
  clear hn32'
  go_wp2_with fail
  go_loopw [7, 117] (fun v i wr => ∃ k : Nat, k ≤ n ∧ i = .int .i64 (k : Int) ∧ Hid (OwnB wr w2.heap.size v (pre ++ (ids.take k).flatten)) ∧ Hid (Grw w2 wr (.slice none 0 0) v)) (fun _ i _ => n - (intOf i).toNat)
  case atStart => exact ⟨0, Nat.zero_le _, rfl, Lib.hid (by simpa using HO4.out), HG4⟩
  case round =>
    obtain ⟨k, hk, rfl, hob, hgr⟩ := hrel
    have HBL := Lib.hid (hgr.out.below (own_nil w2 w2.heap.size) (Nat.le_refl _) (Nat.le_refl _))
    by_cases hlt : k < n
    · have hlt2 : k < ids.length := by rw [← HN.out]; exact hlt
      obtain ⟨b, off, rfl, hbB, hr, hxl⟩ := HashesAt.range (At.below HI2.out (HBL.out.mono hB2)) hlt2
      have HR := Lib.hid hr
      have HXL := Lib.hid hxl
      have HSN := Lib.hid (flat_snoc ids k hlt2)
      have hpl : (pre ++ (ids.take k).flatten).length ≤ 1036 := by
        rw [List.length_append]
        have := HFL.out k
        have := HPL.out
        omega
      clear hr hxl
      generalize ids[k] = x at *
      obtain ⟨P, hP⟩ : ∃ P, P = pre ++ (ids.take k).flatten := ⟨_, rfl⟩
      rw [← hP] at hob hpl
      have HP := Lib.hid hP
      obtain ⟨cx, hcx⟩ : ∃ cx, cx = x.map byteV := ⟨_, rfl⟩
      have HCX := Lib.hid hcx
      have HCL := Lib.hid (show cx.length = 32 by rw [hcx, List.length_map, HXL.out])
      have HCO := Lib.hid (show ∀ u ∈ cx, u.oneCell' = true by rw [hcx]; exact oneCell_bytes _)
      rw [← hcx] at HR
      have HOWN := Lib.hid (own_below hob.out (Joins.below_alloc1 wr (.cells cx.toArray 49)))
      have HSRC := Lib.hid (Src.new wr cx 49)
      have hws := hgr.out.kp.size
      clear hP hcx
      go_wp2_with (first
        | (refine wpList_elem rfl rfl rfl 49 (.tmp 119) (.tmp 9) (.tmp 120) rfl rfl rfl b (off + k * 32) (by rfl) cx _ HR.out Tryd.underlying49 rfl (by rw [HCL.out]; exact size_hash) zs HZH.out (by rw [HZHL.out, HCL.out]) HCO.out (by rfl) (by rfl) ?_)
        | (at_builtin; refine wpList_app _ rfl (.tmp 121) (.tmp 122) _ rfl w2.heap.size 5 i0 _ 1 1 Tryd.underlying33 Hi.out Hz.out Hz1.out Hz2.out rfl (by decide) u7 P.length (P.map byteV) rfl HOWN.out (some ⟨wr.heap.size, 0, none⟩) 32 32 cx rfl (by rw [HCL.out]) HSRC.out HCO.out (by unfold maxLen; omega) (by omega) (by simp; omega) ?_; intro v5 w5 hrow5 hg5 hat5))
      go_roundw
      case rel =>
        refine ⟨k + 1, by omega, by go_num, Lib.hid ?_, Lib.hid (hgr.out.trans ((Grw.of_below (Joins.below_alloc1 _ _) _).trans (Grw.of_app hg5 hat5)))⟩
        have := own_app hrow5 HCX.out HXL.out.symm
        rw [HSN.out, ← List.append_assoc, ← HP.out]
        exact this
      case measure => simp [intOf]; omega
    · have hkn : k = n := by omega
      have HTK := Lib.hid (show ids.take k = ids from List.take_of_length_le (by rw [hkn, HN.out]; exact Nat.le_refl _))
      have hob' := hob.out
      rw [HTK.out] at hob'
      obtain ⟨P, hP⟩ : ∃ P, P = pre ++ ids.flatten := ⟨_, rfl⟩
      rw [← hP] at hob'
      have HPP := Lib.hid hP
      have HOB := Lib.hid hob'
      have hpl : P.length ≤ 1036 := by
        rw [hP, List.length_append]
        have h1 := HFL.out n
        rw [← hkn, HTK.out] at h1
        have := HPL.out
        omega
      have HGR := hgr
      clear hkn hP hob' hob HTK HO4 HG4 HK4 hgr m0 m1 m2 m3 m4 m5 m6
      have HKR := Lib.hid (HGR.out.bk HK2.out (by simp [Value.ownBlock]))
      have HBR := Lib.hid (HB2.out.trans (HBL.out.mono HB2.out.size))
      have hws := HGR.out.kp.size
      have m0 : wr.cell? ⟨w.heap.size, 0, none⟩ = some (.int .i64 10) := by rw [HKR.out.1.cell, HMS.out]; rfl
      have m1 : wr.cell? ⟨w.heap.size, 1, none⟩ = some (.int .u64 (mn : Int)) := by rw [HKR.out.1.cell, HMS.out]; rfl
      have m2 : wr.cell? ⟨w.heap.size, 2, none⟩ = some (.int .u32 (mc : Int)) := by rw [HKR.out.1.cell, HMS.out]; rfl
      have m3 : wr.cell? ⟨w.heap.size, 3, none⟩ = some (.slice A n c) := by rw [HKR.out.1.cell, HMS.out]; rfl
      have m4 : wr.cell? ⟨w.heap.size, 4, none⟩ = some (.int .u32 (t.version : Int)) := by rw [HKR.out.1.cell, HMS.out]; rfl
      have m5 : wr.cell? ⟨w.heap.size, 5, none⟩ = some (.slice A1 t.ins.length c1) := by rw [HKR.out.1.cell, HMS.out]; rfl
      have m6 : wr.cell? ⟨w.heap.size, 6, none⟩ = some (.slice A2 t.outs.length c2) := by rw [HKR.out.1.cell, HMS.out]; rfl
      have h7b : mc ≤ 255 := Nat.le_trans H7.out (by decide)
      have HOW := Lib.hid (own_below HOB.out (Joins.below_alloc1 wr (.cells #[.int .u8 (mc : Int)] 5)))
      go_wp2_with (at_builtin; refine wpList_app _ rfl (.tmp 131) (.tmp 135) _ rfl w2.heap.size 5 i0 _ 1 1 Tryd.underlying33 Hi.out Hz.out Hz1.out Hz2.out rfl (by decide) u7 P.length (P.map byteV) rfl HOW.out (some ⟨wr.heap.size, 0, none⟩) 1 1 [.int .u8 (mc : Int)] rfl rfl (Src.one _ _ _) (fun u hu => by rw [List.mem_singleton.1 hu]; rfl) (by unfold maxLen; omega) (by omega) (by simp; omega) ?_; intro v6 w6 hrow6 hg6 hat6)
      have HG6 := Lib.hid (HGR.out.trans ((Grw.of_below (Joins.below_alloc1 _ _) _).trans (Grw.of_app hg6 hat6)))
      have HO6 := Lib.hid (own_app (cs := Oct.le mc 1) hrow6 (by rw [show Oct.le mc 1 = [UInt8.ofNat mc] by simp [Oct.le]]; show [Value.int .u8 (mc : Int)] = [byteV (UInt8.ofNat mc)]; rw [← byteV_nat, show (mc : Int) % 256 = mc by omega]) rfl)
      have HB6 := Lib.hid (HB2.out.trans ((HG6.out.below (own_nil w2 w2.heap.size) (Nat.le_refl _) (Nat.le_refl _)).mono HB2.out.size))
      clear hrow6 hg6 hat6
      refine (rusesTx_10 w6).mono ?_
      rintro e wq ⟨rfl, rfl⟩
      go_wp2_with fail
      refine (HNAME.out w6).mono ?_
      rintro e wq ⟨rfl, rfl⟩
      go_wp2_with fail
      go_ret3
      rw [HF.out H1.out H4.out H5.out H6.out H7.out]
      exact ⟨v6, by rw [← HSTR.out]; rfl, (by have := own_mono HO6.out HB2.out.size; rw [HPP.out, HPRE.out] at this; exact this), HB6.out⟩
set_option maxHeartbeats 8000000 in
theorem rput8_11 (mn mc : Nat) (ids : List (List UInt8)) (t : Txs.Tx) (A A1 A2 : Option Addr) (c c1 c2 B : Nat) (w : World) (h : MsgAt w B ⟨11, mn, mc, ids, t⟩ A c A1 c1 A2 c2) (hB : B ≤ w.heap.size) :
    Calls Tryd.prog 14 #[msgV ⟨11, mn, mc, ids, t⟩ A c A1 c1 A2 c2] w fun e w' => PutOut w w' (Msgs.put ⟨11, mn, mc, ids, t⟩) e := by
  have hok := h.ok
  have hmn : mn < 18446744073709551616 := hok.n
  have hmc : mc < 4294967296 := hok.code
  have hs : Msgs.shp 11 = Msgs.shN 11 := rfl
  have hkn : Msgs.known 11 = true := rfl
  have HOKI := Lib.hid hok.ids
  have HI := Lib.hid h.ids
  have HE1 := Lib.hid (show (mn ≠ 0) → Msgs.put ⟨11, mn, mc, ids, t⟩ = ([], [], 2) from by
    intro  g
    simp [Msgs.put, Msgs.errOf, Msgs.misfit, hs, hkn, Msgs.shN, Msgs.body, Oct.le, g])
  have HE3 := Lib.hid (show (ids ≠ []) → Msgs.put ⟨11, mn, mc, ids, t⟩ = ([], [], 2) from by
    intro  g
    simp [Msgs.put, Msgs.errOf, Msgs.misfit, hs, hkn, Msgs.shN, Msgs.body, Oct.le, g])
  have HE4 := Lib.hid (show (t ≠ Txs.none) → Msgs.put ⟨11, mn, mc, ids, t⟩ = ([], [], 2) from by
    intro  g
    simp [Msgs.put, Msgs.errOf, Msgs.misfit, hs, hkn, Msgs.shN, Msgs.body, Oct.le, g])
  have HE7 := Lib.hid (show (mn = 0) → (ids = []) → (t = Txs.none) → (1 < mc) → Msgs.put ⟨11, mn, mc, ids, t⟩ = ([], [], 3) from by
    intro g0 g1 g2 g
    simp [Msgs.put, Msgs.errOf, Msgs.misfit, hs, hkn, Msgs.shN, Msgs.body, Oct.le, g, g0, g1, g2])
  have HF := Lib.hid (show (mn = 0) → (ids = []) → (t = Txs.none) → (mc ≤ 1) → Msgs.put ⟨11, mn, mc, ids, t⟩ = ((Msgs.shp 11).cmd, (([] : List UInt8)) ++ ids.flatten ++ Oct.le mc 1, 0) from by
    intro g0 g1 g2 g3
    have e0 : Msgs.errOf ⟨11, mn, mc, ids, t⟩ = 0 := by simp [Msgs.errOf, Msgs.misfit, hs, hkn, Msgs.shN, g0, g1, g2, g3]
    unfold Msgs.put
    rw [if_neg (by simp [e0]), if_neg (by simp [hs, Msgs.shN])]
    simp [Msgs.body, hs, Msgs.shN, g0, g1, g2, g3, Oct.le])
  have HTX2 := Lib.hid (fun W (hb : Below w.heap.size w W) => show TxAt W w.heap.size t A1 c1 A2 c2 from (h.tx.below (hb.mono hB)).mono hB)
  have HOKT := Lib.hid hok.tx
  have HNAME := Lib.hid (fun W => name_yes 11 hkn W)
  obtain ⟨str, hstr⟩ : ∃ str, str = (⟨(Msgs.shp 11).cmd.toArray⟩ : ByteArray) := ⟨_, rfl⟩
  have hne : str.toList.isEmpty = false := by rw [str_empty, hstr]; decide
  rw [← hstr] at HNAME
  have HSTR := Lib.hid hstr
  obtain ⟨w1, ms, hms, hv, hms7, hw1, hb1, hz1, hk1⟩ := msg_box w ⟨11, mn, mc, ids, t⟩ A A1 A2 c c1 c2
  have HB1 := Lib.hid hb1
  have HK1 := Lib.hid hk1
  rw [hv]
  rw [hms] at hw1
  simp only at hw1
  obtain ⟨n, hn⟩ : ∃ n, n = ids.length := ⟨_, rfl⟩
  rw [← hn] at hms hw1
  have HMS := Lib.hid hms
  have HN := Lib.hid hn
  rw [hms]
  have hz1' : w.heap.size + 1 ≤ w1.heap.size := by omega
  clear hn hms hms7 hb1 hk1 hz1 hv hstr h hok hs hkn
  obtain ⟨i0, hi, hz0, hz1, hz2⟩ := info_parts byte_info
  have Hi := Lib.hid hi
  have Hz := Lib.hid hz0
  have Hz1 := Lib.hid hz1
  have Hz2 := Lib.hid hz2
  clear hi hz0 hz1 hz2
  obtain ⟨zs, hzs⟩ : ∃ zs, zs = bytesArr (List.replicate 32 (0 : UInt8)) := ⟨_, rfl⟩
  have HZH := Lib.hid (show (Tryd.prog.info? 49).map (·.zero) = some (some (.agg zs)) by rw [hzs]; exact zero_hash)
  have HZHL := Lib.hid (show zs.size = 32 by rw [hzs]; simp [bytesArr])
  clear hzs
  go_enter Tryd.func14, Tryd.ntmps14
  go_upto_region 1 with (fail)
  rw [← hw1]
  clear hw1
  have m0 : w1.cell? ⟨w.heap.size, 0, none⟩ = some (.int .i64 11) := by rw [HK1.out.cell, HMS.out]; rfl
  have m1 : w1.cell? ⟨w.heap.size, 1, none⟩ = some (.int .u64 (mn : Int)) := by rw [HK1.out.cell, HMS.out]; rfl
  have m2 : w1.cell? ⟨w.heap.size, 2, none⟩ = some (.int .u32 (mc : Int)) := by rw [HK1.out.cell, HMS.out]; rfl
  have m3 : w1.cell? ⟨w.heap.size, 3, none⟩ = some (.slice A n c) := by rw [HK1.out.cell, HMS.out]; rfl
  have m4 : w1.cell? ⟨w.heap.size, 4, none⟩ = some (.int .u32 (t.version : Int)) := by rw [HK1.out.cell, HMS.out]; rfl
  have m5 : w1.cell? ⟨w.heap.size, 5, none⟩ = some (.slice A1 t.ins.length c1) := by rw [HK1.out.cell, HMS.out]; rfl
  have m6 : w1.cell? ⟨w.heap.size, 6, none⟩ = some (.slice A2 t.outs.length c2) := by rw [HK1.out.cell, HMS.out]; rfl
  go_wp2_with fail
  refine (HNAME.out w1).mono ?_
  rintro e wq ⟨rfl, rfl⟩
  go_wp2_with fail
  refine (rusesN_11 w1).mono ?_
  rintro e wq ⟨rfl, rfl⟩
  by_cases h1 : mn = 0
  rotate_left
  focus
    have e1 : ((mn : Int) != 0) = true := by rw [bne_iff_ne]; omega
    have H1 := Lib.hid h1
    clear h1
    go_wp2_with fail
    go_ret3
    rw [HE1.out H1.out]
    exact ⟨.slice none 0 0, rfl, own_nil _ _, HB1.out⟩
  have e1 : ((mn : Int) != 0) = false := by rw [h1]; rfl
  have H1 := Lib.hid h1
  clear h1
  go_wp2_with fail
  refine (rusesCode_11 w1).mono ?_
  rintro e wq ⟨rfl, rfl⟩
  clear e1
  go_wp2_with fail
  refine (rusesIds_11 w1).mono ?_
  rintro e wq ⟨rfl, rfl⟩
  by_cases h3 : n = 0
  rotate_left
  focus
    have e3 : (0 : Int) < (n : Int) := by omega
    have e3n : 0 < n := by omega
    have H3 := Lib.hid (show ids ≠ [] from fun e => h3 (by rw [HN.out, e]; rfl))
    clear h3
    go_wp2_with fail
    go_ret3
    rw [HE3.out H3.out]
    exact ⟨.slice none 0 0, rfl, own_nil _ _, HB1.out⟩
  have H3 := Lib.hid (show ids = [] from List.length_eq_zero_iff.1 (HN.out.symm.trans h3))
  have e3 : ¬ (0 : Int) < (n : Int) := by omega
  have e3n : ¬ 0 < n := by omega
  clear h3
  go_wp2_with fail
  refine (rusesTx_11 w1).mono ?_
  rintro e wq ⟨rfl, rfl⟩
  go_wp2_with fail
  refine (bare_any t A1 A2 c1 c2 w1).mono ?_
  rintro e w2 ⟨rfl, hb2⟩
  have HB2 := Lib.hid (HB1.out.trans (hb2.mono HB1.out.size))
  have HK2 := Lib.hid (HK1.out.below hb2 HK1.out.lt)
  have hz2 : w.heap.size + 1 ≤ w2.heap.size := by have := hb2.size; omega
  clear hb2
  clear m0 m1 m2 m3 m4 m5 m6
  have m0 : w2.cell? ⟨w.heap.size, 0, none⟩ = some (.int .i64 11) := by rw [HK2.out.cell, HMS.out]; rfl
  have m1 : w2.cell? ⟨w.heap.size, 1, none⟩ = some (.int .u64 (mn : Int)) := by rw [HK2.out.cell, HMS.out]; rfl
  have m2 : w2.cell? ⟨w.heap.size, 2, none⟩ = some (.int .u32 (mc : Int)) := by rw [HK2.out.cell, HMS.out]; rfl
  have m3 : w2.cell? ⟨w.heap.size, 3, none⟩ = some (.slice A n c) := by rw [HK2.out.cell, HMS.out]; rfl
  have m4 : w2.cell? ⟨w.heap.size, 4, none⟩ = some (.int .u32 (t.version : Int)) := by rw [HK2.out.cell, HMS.out]; rfl
  have m5 : w2.cell? ⟨w.heap.size, 5, none⟩ = some (.slice A1 t.ins.length c1) := by rw [HK2.out.cell, HMS.out]; rfl
  have m6 : w2.cell? ⟨w.heap.size, 6, none⟩ = some (.slice A2 t.outs.length c2) := by rw [HK2.out.cell, HMS.out]; rfl
  by_cases h4 : t = Txs.none
  rotate_left
  focus
    rw [decide_eq_false h4]
    have H4 := Lib.hid h4
    clear h4
    go_wp2_with fail
    go_ret3
    rw [HE4.out H4.out]
    exact ⟨.slice none 0 0, rfl, own_nil _ _, HB2.out⟩
  rw [decide_eq_true h4]
  have H4 := Lib.hid h4
  clear h4
  go_wp2_with fail
  refine (rusesIds_11 w2).mono ?_
  rintro e wq ⟨rfl, rfl⟩
  have e6 : ¬ (32 : Int) < (n : Int) := by omega
  by_cases h7 : 1 < mc
  focus
    have e7 : (1 : Int) < (mc : Int) := by omega
    have H7 := Lib.hid h7
    go_wp2_with fail
    go_ret3
    rw [HE7.out H1.out H3.out H4.out H7.out]
    exact ⟨.slice none 0 0, rfl, own_nil _ _, HB2.out⟩
  have e7 : ¬ (1 : Int) < (mc : Int) := by omega
  have H7 := Lib.hid (show mc ≤ 1 by omega)
  have hn32 : n ≤ 32 := by omega
  obtain ⟨v4, hv4⟩ : ∃ v4 : Value, v4 = .slice none 0 0 := ⟨_, rfl⟩
  obtain ⟨w4, hw4⟩ : ∃ w4 : World, w4 = w2 := ⟨_, rfl⟩
  obtain ⟨pre, hpre⟩ : ∃ pre : List UInt8, pre = [] := ⟨_, rfl⟩
  have HO4 := Lib.hid (show OwnB w4 w2.heap.size v4 pre by rw [hw4, hv4, hpre]; exact own_nil _ _)
  have HG4 := Lib.hid (show Grw w2 w4 (.slice none 0 0) v4 by rw [hw4, hv4]; exact Grw.refl _ _)
  have HPL := Lib.hid (show pre.length ≤ 12 by rw [hpre]; simp)
  have HK4 := Lib.hid (HG4.out.bk HK2.out (by simp [Value.ownBlock]))
  have HPRE := Lib.hid hpre
  go_wp2_with fail
  refine (rusesN_11 w2).mono ?_
  rintro e wq ⟨rfl, rfl⟩
  go_wp2_with fail
  refine (rcounted_11 w2).mono ?_
  rintro e wq ⟨rfl, rfl⟩
  go_upto_region 20 with (fail)
  rw [← hw4] at m0 m1 m2 m3 m4 m5 m6 ⊢
  rw [← hv4]
  clear hw4 hv4 hpre
  have hz4 := HG4.out.kp.size
  have HI2 := Lib.hid (show HashesAt w2 B A ids from At.below HI.out (HB2.out.mono hB))
  have hB2 : B ≤ w2.heap.size := by omega
  have hn32' : ids.length ≤ 32 := by rw [← HN.out]; exact hn32
  have HFL := Lib.hid (fun k => flat_take_le ids k HOKI.out hn32')
  clear hn32'
  go_wp2_with fail
  go_loopw [7, 117] (fun v i wr => ∃ k : Nat, k ≤ n ∧ i = .int .i64 (k : Int) ∧ Hid (OwnB wr w2.heap.size v (pre ++ (ids.take k).flatten)) ∧ Hid (Grw w2 wr (.slice none 0 0) v)) (fun _ i _ => n - (intOf i).toNat)
  case atStart => exact ⟨0, Nat.zero_le _, rfl, Lib.hid (by simpa using HO4.out), HG4⟩
  case round =>
    obtain ⟨k, hk, rfl, hob, hgr⟩ := hrel
    have HBL := Lib.hid (hgr.out.below (own_nil w2 w2.heap.size) (Nat.le_refl _) (Nat.le_refl _))
    by_cases hlt : k < n
    · exfalso; omega
    · have hkn : k = n := by omega
      have HTK := Lib.hid (show ids.take k = ids from List.take_of_length_le (by rw [hkn, HN.out]; exact Nat.le_refl _))
      have hob' := hob.out
      rw [HTK.out] at hob'
      obtain ⟨P, hP⟩ : ∃ P, P = pre ++ ids.flatten := ⟨_, rfl⟩
      rw [← hP] at hob'
      have HPP := Lib.hid hP
      have HOB := Lib.hid hob'
      have hpl : P.length ≤ 1036 := by
        rw [hP, List.length_append]
        have h1 := HFL.out n
        rw [← hkn, HTK.out] at h1
        have := HPL.out
        omega
      have HGR := hgr
      clear hkn hP hob' hob HTK HO4 HG4 HK4 hgr m0 m1 m2 m3 m4 m5 m6
      have HKR := Lib.hid (HGR.out.bk HK2.out (by simp [Value.ownBlock]))
      have HBR := Lib.hid (HB2.out.trans (HBL.out.mono HB2.out.size))
      have hws := HGR.out.kp.size
      have m0 : wr.cell? ⟨w.heap.size, 0, none⟩ = some (.int .i64 11) := by rw [HKR.out.1.cell, HMS.out]; rfl
      have m1 : wr.cell? ⟨w.heap.size, 1, none⟩ = some (.int .u64 (mn : Int)) := by rw [HKR.out.1.cell, HMS.out]; rfl
      have m2 : wr.cell? ⟨w.heap.size, 2, none⟩ = some (.int .u32 (mc : Int)) := by rw [HKR.out.1.cell, HMS.out]; rfl
      have m3 : wr.cell? ⟨w.heap.size, 3, none⟩ = some (.slice A n c) := by rw [HKR.out.1.cell, HMS.out]; rfl
      have m4 : wr.cell? ⟨w.heap.size, 4, none⟩ = some (.int .u32 (t.version : Int)) := by rw [HKR.out.1.cell, HMS.out]; rfl
      have m5 : wr.cell? ⟨w.heap.size, 5, none⟩ = some (.slice A1 t.ins.length c1) := by rw [HKR.out.1.cell, HMS.out]; rfl
      have m6 : wr.cell? ⟨w.heap.size, 6, none⟩ = some (.slice A2 t.outs.length c2) := by rw [HKR.out.1.cell, HMS.out]; rfl
      have h7b : mc ≤ 255 := Nat.le_trans H7.out (by decide)
      have HOW := Lib.hid (own_below HOB.out (Joins.below_alloc1 wr (.cells #[.int .u8 (mc : Int)] 5)))
      go_wp2_with (at_builtin; refine wpList_app _ rfl (.tmp 131) (.tmp 135) _ rfl w2.heap.size 5 i0 _ 1 1 Tryd.underlying33 Hi.out Hz.out Hz1.out Hz2.out rfl (by decide) u7 P.length (P.map byteV) rfl HOW.out (some ⟨wr.heap.size, 0, none⟩) 1 1 [.int .u8 (mc : Int)] rfl rfl (Src.one _ _ _) (fun u hu => by rw [List.mem_singleton.1 hu]; rfl) (by unfold maxLen; omega) (by omega) (by simp; omega) ?_; intro v6 w6 hrow6 hg6 hat6)
      have HG6 := Lib.hid (HGR.out.trans ((Grw.of_below (Joins.below_alloc1 _ _) _).trans (Grw.of_app hg6 hat6)))
      have HO6 := Lib.hid (own_app (cs := Oct.le mc 1) hrow6 (by rw [show Oct.le mc 1 = [UInt8.ofNat mc] by simp [Oct.le]]; show [Value.int .u8 (mc : Int)] = [byteV (UInt8.ofNat mc)]; rw [← byteV_nat, show (mc : Int) % 256 = mc by omega]) rfl)
      have HB6 := Lib.hid (HB2.out.trans ((HG6.out.below (own_nil w2 w2.heap.size) (Nat.le_refl _) (Nat.le_refl _)).mono HB2.out.size))
      clear hrow6 hg6 hat6
      refine (rusesTx_11 w6).mono ?_
      rintro e wq ⟨rfl, rfl⟩
      go_wp2_with fail
      refine (HNAME.out w6).mono ?_
      rintro e wq ⟨rfl, rfl⟩
      go_wp2_with fail
      go_ret3
      rw [HF.out H1.out H3.out H4.out H7.out]
      exact ⟨v6, by rw [← HSTR.out]; rfl, (by have := own_mono HO6.out HB2.out.size; rw [HPP.out, HPRE.out] at this; exact this), HB6.out⟩
end Go.Proofs.YtanjlgkbjcienaaDoor.M8
