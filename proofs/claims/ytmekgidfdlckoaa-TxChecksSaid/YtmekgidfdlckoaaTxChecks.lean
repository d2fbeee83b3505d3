/- What may not be of any transaction: the law. -/
import Derived.Test.YtmekgidfdlckoaaTxRCheck
import Derived.Test.YtmekgidfdlckoaaTxCuts
import Derived.Test.YtmekgidfdlckoaaHeldTx
namespace Go.Proofs.Ytmekgidfdlckoaa
open Go.RowKit Go.Deep T7
set_option linter.unusedVariables false
set_option linter.unusedSimpArgs false
set_option maxRecDepth 100000
attribute [local go_sem ↓] Go.wp_at_zero Go.wp_at_succ
set_option maxHeartbeats 4000000 in
theorem txChecks_walk (w : World) (t : Txs.Tx) (A : Option Addr) (c : Nat) (A' : Option Addr) (c' : Nat) (h : TxAt w w.heap.size t A c A' c') :
    Calls Try.prog 4 #[txV t A c A' c'] w fun e w' => e = .returned (.bool true) ∧ Below w.heap.size w w' := by
  obtain ⟨w1, hw1, hb1, hz1, hk1⟩ := tx_box w t A A' c c'
  have HB1 := Lib.hid hb1
  have HZ1 := Lib.hid hz1
  have HK1 := Lib.hid hk1
  have HT := Lib.hid h
  have HC1 := Lib.hid (fun W h1 h2 => check7_any t A A' c c' w.heap.size W h1 h2)
  have HC2 := Lib.hid (fun W h1 h2 => rcheck_any t A A' c c' w.heap.size W h1 h2)
  unfold txV at HC1 HC2 ⊢
  generalize Txs.check t = ck at *
  clear hb1 hz1 hk1 h
  go_enter Try.func4, Try.ntmps4
  go_wp2_with fail
  rw [← hw1]
  clear hw1
  refine (tx_alive w1).mono ?_
  rintro e w2 ⟨rfl, hb2⟩
  have HB2 := Lib.hid (HB1.out.trans (hb2.mono HB1.out.size))
  have HK2 := Lib.hid (HK1.out.below hb2 (by rw [HZ1.out]; omega))
  have hz2 : w.heap.size + 1 ≤ w2.heap.size := by rw [← HZ1.out]; exact hb2.size
  have HT2 := Lib.hid (HT.out.below HB2.out)
  obtain ⟨k0, k1, k2⟩ := tx_cells HK2.out
  clear hb2
  have HG := Lib.hid (great_any t A A' c c' _ w2 HT2.out HB2.out.size)
  unfold txV at HG
  go_wp2_with fail
  refine HG.out.mono ?_
  rintro e w3 ⟨rfl, hb3⟩
  have HB3 := Lib.hid (HB2.out.trans (hb3.mono HB2.out.size))
  have HK3 := Lib.hid (HK2.out.below hb3 (by omega))
  have HKT := Lib.hid (KT.of_bk (cs := [.int .u32 (t.version : Int), .slice A t.ins.length c, .slice A' t.outs.length c']) HK3.out HB3.out)
  clear hb3 HG k0 k1 k2
  cases hg : greatB t with
  | true =>
    go_wp2_with fail
    go_ret
    exact ⟨rfl, HB3.out⟩
  | false =>
    clear hg
    go_wp2_with fail
    refine wp_region_held_drew (S := KT w w.heap.size [.int .u32 (t.version : Int), .slice A t.ins.length c, .slice A' t.outs.length c']) (by kernel_rfl) (HKT.out.drew) (fun hHeld => ?_)
    refine wpAnyH_take (i := 0) (v := .agg ([.int .u32 (t.version : Int), .slice A t.ins.length c, .slice A' t.outs.length c']).toArray) rfl (by kernel_rfl) (by kernel_rfl) (by kernel_rfl) (fun _ _ _ h => h) (yieldsIf_load_mid (by rfl) 28 (.tmp 1) rfl (w.heap.size) (0) (by rfl) ([.int .u32 (t.version : Int), .slice A t.ins.length c, .slice A' t.outs.length c']) _ (fun _ h => h.rng) Try.underlying28 rfl (size_tx)) hHeld ?_
    simp only [Act.put, List.setIfInBounds_toArray, List.set_cons_zero, List.set_cons_succ, List.getElem_toArray, List.getElem_cons_zero, List.getElem_cons_succ]
    refine wpAnyH_take (i := 2) (v := .agg ([.int .u32 (t.version : Int), .slice A t.ins.length c, .slice A' t.outs.length c']).toArray) rfl (by kernel_rfl) (by kernel_rfl) (by kernel_rfl) (fun _ _ _ h => h) (yieldsIf_load_mid (by rfl) 28 (.tmp 1) rfl (w.heap.size) (0) (by rfl) ([.int .u32 (t.version : Int), .slice A t.ins.length c, .slice A' t.outs.length c']) _ (fun _ h => h.rng) Try.underlying28 rfl (size_tx)) hHeld ?_
    simp only [Act.put, List.setIfInBounds_toArray, List.set_cons_zero, List.set_cons_succ, List.getElem_toArray, List.getElem_cons_zero, List.getElem_cons_succ]
    refine wpAnyH_ready (rs := [1]) (by kernel_rfl) (by simp) ?_
    refine (AllReadyH.cons rfl (fun K hK => ?_) AllReadyH.nil)
    go_simp
    refine (HC1.out _ (HT.out.below hHeld.bel) hHeld.bel.size).mono ?_
    rintro e w' ⟨rfl, hb⟩
    go_wp2_with fail
    refine hK.out _ _ (hHeld.keep hb) (fun hHeld => ?_)
    clear hK K
    try simp only [Act.put, List.setIfInBounds_toArray, List.set_cons_zero, List.set_cons_succ, List.getElem_toArray, List.getElem_cons_zero, List.getElem_cons_succ]
    refine wpAnyH_ready (rs := [3]) (by kernel_rfl) (by simp) ?_
    refine (AllReadyH.cons rfl (fun K hK => ?_) AllReadyH.nil)
    go_simp
    refine (HC2.out _ (HT.out.below hHeld.bel) hHeld.bel.size).mono ?_
    rintro e w' ⟨rfl, hb⟩
    go_wp2_with fail
    refine hK.out _ _ (hHeld.keep hb) (fun hHeld => ?_)
    clear hK K
    try simp only [Act.put, List.setIfInBounds_toArray, List.set_cons_zero, List.set_cons_succ, List.getElem_toArray, List.getElem_cons_zero, List.getElem_cons_succ]
    refine wpAnyH_take (i := 4) (v := ?_) rfl (by kernel_rfl) (by kernel_rfl) (by kernel_rfl) (fun _ _ _ h => h) (Or.inl ⟨by rfl, ?_⟩) hHeld ?_
    rotate_left
    · (intro w hSw; go_simp <;> with_reducible rfl)
    simp only [Act.put, List.setIfInBounds_toArray, List.set_cons_zero, List.set_cons_succ, List.getElem_toArray, List.getElem_cons_zero, List.getElem_cons_succ]
    refine wpAnyH_take (i := 5) (v := ?_) rfl (by kernel_rfl) (by kernel_rfl) (by kernel_rfl) (fun _ _ _ h => h) (Or.inl ⟨by rfl, ?_⟩) hHeld ?_
    rotate_left
    · (intro w hSw; go_simp <;> with_reducible rfl)
    simp only [Act.put, List.setIfInBounds_toArray, List.set_cons_zero, List.set_cons_succ, List.getElem_toArray, List.getElem_cons_zero, List.getElem_cons_succ]
    refine wpAnyH_done (by kernel_rfl) ?_ _
    have HB := Lib.hid hHeld.bel
    go_wp2_with fail
    go_ret
    exact ⟨rfl, HB.out⟩
end Go.Proofs.Ytmekgidfdlckoaa
