/- MsgRT, merged: MsgRS, MsgRLane. -/
import Derived.Test.YtpacgblddeoheaaDoorMsgX
/- The document's messages: names, Same. -/
/- The document's messages: names, Same. -/
namespace Go.Proofs.YtpacgblddeoheaaDoor.M8
open Go.RowKit Go.Deep T7
set_option linter.unusedVariables false
set_option linter.unusedSimpArgs false
set_option maxRecDepth 100000
attribute [local go_sem ↓] Go.wp_at_zero Go.wp_at_succ

theorem name_yes (k : Int) (hk : Msgs.known k = true) (w : World) : Calls Tryd.prog 56 #[.int .i64 k] w fun e w' => e = .returned (.string ⟨(Msgs.shp k).cmd.toArray⟩) ∧ w = w' := by
  rcases Msgs.known_cases hk with rfl | rfl | rfl | rfl | rfl | rfl | rfl | rfl | rfl | rfl | rfl
  all_goals
    clear hk
    go_enter Tryd.func56, Tryd.ntmps56
    go_wp2_with fail
    go_ret
    exact ⟨rfl, rfl⟩
set_option maxHeartbeats 2000000 in
theorem sameids_any (A A' : Option Addr) (n n' c c' B B' : Nat) (l l' : List (List UInt8)) (w : World) (hl : l.length = n) (hl' : l'.length = n') (hn : n ≤ 9223372036854775807) (hn' : n' ≤ 9223372036854775807) (h : HashesAt w B A l) (h' : HashesAt w B' A' l') :
    Calls Tryd.prog 53 #[.slice A n c, .slice A' n' c'] w fun r w' => r = .returned (.bool (decide (l = l'))) ∧ ∃ n, w' = w.drewN n := by
  have HO := Lib.hid h
  have HO' := Lib.hid h'
  have HN := Lib.hid hl
  have HN' := Lib.hid hl'
  clear h h'
  by_cases hnn : ¬ n = n'
  · have HD := Lib.hid (show decide (l = l') = false by rw [decide_eq_false_iff_not]; rintro rfl; omega)
    have hb : ((n : Int) != (n' : Int)) = true := by rw [bne_iff_ne]; omega
    clear hnn hl hl'
    go_enter Tryd.func53, Tryd.ntmps53
    go_wp2_with fail
    go_ret
    exact ⟨ret_bool HD.out.symm, 0, rfl⟩
  obtain rfl : n = n' := by omega
  clear hl hl' hnn
  go_enter Tryd.func53, Tryd.ntmps53
  go_wp2_with fail
  go_loopw [13] (fun i wr => ∃ k : Nat, k ≤ n ∧ i = .int .i64 (k : Int) ∧ Hid (l.take k = l'.take k) ∧ ∃ m, wr = w.drewN m) (fun i _ => n - (intOf i).toNat)
  case atStart => exact ⟨0, Nat.zero_le _, rfl, Lib.hid rfl, 0, rfl⟩
  case round =>
    obtain ⟨k, hk, rfl, ha, m, rfl⟩ := hrel
    by_cases hlt : k < n
    · have hlt1 : k < l.length := by rw [HN.out]; exact hlt
      have hlt2 : k < l'.length := by rw [HN'.out]; exact hlt
      obtain ⟨b, off, rfl, hbB, hr, hok⟩ := HO.out.range hlt1
      obtain ⟨b', off', rfl, hbB', hr', hok'⟩ := HO'.out.range hlt2
      have HSU := Lib.hid (fun hx => tk_succ hlt1 hlt2 ha.out hx)
      have HNX := Lib.hid (fun hx => show decide (l = l') = false from decide_eq_false (nth_ne hlt1 hlt2 hx))
      generalize l[k] = x at *
      generalize l'[k] = y at *
      have i1 : (0 : Int) ≤ (k : Int) := by omega
      have i2 : (k : Int) < (n : Int) := by omega
      have R1 := Lib.hid (show (w.drewN m).rangeAt b (off + k * 32) (x.map byteV) from hr)
      have R2 := Lib.hid (show (w.drewN m).rangeAt b' (off' + k * 32) (y.map byteV) from hr')
      have L1 := Lib.hid (show (x.map byteV).length = 32 by rw [List.length_map]; exact hok)
      have L2 := Lib.hid (show (y.map byteV).length = 32 by rw [List.length_map]; exact hok')
      have O1 := Lib.hid hok
      have O2 := Lib.hid hok'
      have HEQI := Lib.hid (show (!decide (x = y)) = false → x = y from fun h => by simpa using h)
      have HNEI := Lib.hid (show (!decide (x = y)) = true → x ≠ y from fun h => by simpa using h)
      clear hr hr' hok hok'
      go_wp2_with fail
      cases hpn : (!decide (x = y)) with
      | true =>
        have HF := Lib.hid (HNX.out (HNEI.out hpn))
        refine wp_region_quiet_lit (by kernel_rfl) (by kernel_rfl) ?_
        iterate 3 (go_big_quiet_step (fail))
        (refine wpQuiet_load_mid rfl 93 (.tmp 18) rfl b (off + k * 32) (by rfl) (x.map byteV) _ (fun w' ⟨n, e⟩ => by subst e; exact R1.out) Tryd.underlying93 rfl (by rw [L1.out]; exact size_hash) ?_; go_frame)
        iterate 3 (go_big_quiet_step (fail))
        (refine wpQuiet_load_mid rfl 93 (.tmp 22) rfl b' (off' + k * 32) (by rfl) (y.map byteV) _ (fun w' ⟨n, e⟩ => by subst e; exact R2.out) Tryd.underlying93 rfl (by rw [L2.out]; exact size_hash) ?_; go_frame)
        (refine wpQuiet_ne_hash rfl (.tmp 19) (.tmp 23) _ rfl x y O1.out O2.out (by rfl) (by rfl) true hpn ?_; go_frame)
        refine wpQuiet_nil ?_
        intro _ hw'
        obtain ⟨nq, hw''⟩ := hw'
        subst hw''
        go_wp2_with fail
        go_ret
        exact ⟨ret_bool HF.out.symm, m + nq, by first | rfl | simp⟩
      | false =>
        refine wp_region_quiet_lit (by kernel_rfl) (by kernel_rfl) ?_
        iterate 3 (go_big_quiet_step (fail))
        (refine wpQuiet_load_mid rfl 93 (.tmp 18) rfl b (off + k * 32) (by rfl) (x.map byteV) _ (fun w' ⟨n, e⟩ => by subst e; exact R1.out) Tryd.underlying93 rfl (by rw [L1.out]; exact size_hash) ?_; go_frame)
        iterate 3 (go_big_quiet_step (fail))
        (refine wpQuiet_load_mid rfl 93 (.tmp 22) rfl b' (off' + k * 32) (by rfl) (y.map byteV) _ (fun w' ⟨n, e⟩ => by subst e; exact R2.out) Tryd.underlying93 rfl (by rw [L2.out]; exact size_hash) ?_; go_frame)
        (refine wpQuiet_ne_hash rfl (.tmp 19) (.tmp 23) _ rfl x y O1.out O2.out (by rfl) (by rfl) false hpn ?_; go_frame)
        refine wpQuiet_nil ?_
        intro _ hw'
        obtain ⟨nq, hw''⟩ := hw'
        subst hw''
        have HTN := Lib.hid (HSU.out (HEQI.out hpn))
        go_wp2_with fail
        go_roundw
        case rel => exact ⟨k + 1, by omega, by go_num, HTN, m + nq, by first | rfl | simp⟩
        case measure => simp [intOf]; omega
    · have HD := Lib.hid (show decide (l = l') = true from decide_eq_true (take_all (by rw [HN.out]; omega) (by rw [HN'.out]; omega) ha.out))
      go_wp2_with fail
      go_ret
      exact ⟨ret_bool HD.out.symm, m, rfl⟩
set_option maxHeartbeats 2000000 in
theorem rsame_self8 (m : Msgs.Msg) (A A1 A2 A' A1' A2' : Option Addr) (c c1 c2 c' c1' c2' B B' : Nat) (w : World) (h : MsgAt w B m A c A1 c1 A2 c2) (h' : MsgAt w B' m A' c' A1' c1' A2' c2') (hB : B ≤ w.heap.size) (hB' : B' ≤ w.heap.size) :
    Calls Tryd.prog 34 #[msgV m A c A1 c1 A2 c2, msgV m A' c' A1' c1' A2' c2'] w fun e w' => e = .returned (.bool true) ∧ Below w.heap.size w w' := by
  have hn : m.ids.length ≤ 9223372036854775807 := by have h1 := h.ic; have h2 := h.im; unfold maxLen at h2; omega
  have HQ := Lib.hid (fun W (hb : Below w.heap.size w W) => sameids_any A A' _ _ c c' B B' m.ids m.ids W rfl rfl hn hn (At.below h.ids (hb.mono hB)) (At.below h'.ids (hb.mono hB')))
  have HT := Lib.hid (fun W (hb : Below w.heap.size w W) => rsame_any m.tx m.tx A1 A2 A1' A2' c1 c2 c1' c2' B B' W (h.tx.below (hb.mono hB)) (h'.tx.below (hb.mono hB')) (Nat.le_trans hB hb.size) (Nat.le_trans hB' hb.size))
  rw [decide_eq_true rfl] at HQ HT
  obtain ⟨wa, ma, hma, hva, hm7a, hwa, hba, hza, hka⟩ := msg_box w m A A1 A2 c c1 c2
  obtain ⟨wb, mb, hmb, hvb, hm7b, hwb, hbb, hzb, hkb⟩ := msg_box wa m A' A1' A2' c' c1' c2'
  have HBB := Lib.hid (hba.trans (hbb.mono hba.size))
  have HKA := Lib.hid (show Bk wb w.heap.size 51 ma by rw [hwb]; exact hka.alloc _)
  have HKB := Lib.hid hkb
  rw [hma] at HKA hwa
  rw [hmb] at HKB hwb
  have hgo : wb = (w.alloc (.cells #[.int .i64 m.kind, .int .u64 (m.n : Int), .int .u32 (m.code : Int), .slice A m.ids.length c, .int .u32 (m.tx.version : Int), .slice A1 m.tx.ins.length c1, .slice A2 m.tx.outs.length c2] 51)).alloc (.cells #[.int .i64 m.kind, .int .u64 (m.n : Int), .int .u32 (m.code : Int), .slice A' m.ids.length c', .int .u32 (m.tx.version : Int), .slice A1' m.tx.ins.length c1', .slice A2' m.tx.outs.length c2'] 51) := by rw [hwb, hwa]
  have hga : wa.heap.size = w.heap.size + 1 := hza
  rw [hga] at HKB
  have a4 := (HKA.out.cell 4).trans rfl
  have a5 := (HKA.out.cell 5).trans rfl
  have a6 := (HKA.out.cell 6).trans rfl
  unfold msgV
  unfold txV at HT
  clear hma hva hm7a hwa hba hza hka hmb hvb hm7b hwb hbb hzb hkb h h' hga a4 a5 a6
  go_enter Tryd.func34, Tryd.ntmps34
  go_wp2_with fail
  rw [← hgo]
  refine (HQ.out wb HBB.out).mono ?_
  rintro e w2 ⟨rfl, nd, rfl⟩
  have HBD := Lib.hid (below_drewN HBB.out nd)
  have a4 : (wb.drewN nd).cell? ⟨w.heap.size, 4, none⟩ = some (.int .u32 (m.tx.version : Int)) := (HKA.out.cell 4).trans rfl
  have a5 : (wb.drewN nd).cell? ⟨w.heap.size, 5, none⟩ = some (.slice A1 m.tx.ins.length c1) := (HKA.out.cell 5).trans rfl
  have a6 : (wb.drewN nd).cell? ⟨w.heap.size, 6, none⟩ = some (.slice A2 m.tx.outs.length c2) := (HKA.out.cell 6).trans rfl
  have b4 : (wb.drewN nd).cell? ⟨w.heap.size + 1, 4, none⟩ = some (.int .u32 (m.tx.version : Int)) := (HKB.out.cell 4).trans rfl
  have b5 : (wb.drewN nd).cell? ⟨w.heap.size + 1, 5, none⟩ = some (.slice A1' m.tx.ins.length c1') := (HKB.out.cell 5).trans rfl
  have b6 : (wb.drewN nd).cell? ⟨w.heap.size + 1, 6, none⟩ = some (.slice A2' m.tx.outs.length c2') := (HKB.out.cell 6).trans rfl
  generalize wb.drewN nd = wd at *
  clear hgo
  go_wp2_with fail
  refine (HT.out wd HBD.out).mono ?_
  rintro e w3 ⟨rfl, hb3⟩
  have HB3 := Lib.hid (HBD.out.trans (hb3.mono HBD.out.size))
  clear hb3
  go_wp2_with fail
  go_ret
  exact ⟨rfl, HB3.out⟩

end Go.Proofs.YtpacgblddeoheaaDoor.M8
/- The document's lane. -/
namespace Go.Proofs.YtpacgblddeoheaaDoor.M8
open Go.RowKit Go.Deep T7
set_option linter.unusedVariables false
set_option linter.unusedSimpArgs false
set_option maxRecDepth 100000
attribute [local go_sem ↓] Go.wp_at_zero Go.wp_at_succ

theorem rlane_any (k : Int) (w : World) : Calls Tryd.prog 40 #[.int .i64 k] w fun e w' => e = .returned (.int .i64 (if k = 9 then 1 else 0)) ∧ w = w' := by
  by_cases h : k = 9
  · rw [if_pos h]
    have e : (k == 9) = true := by rw [beq_iff_eq]; exact h
    clear h
    go_enter Tryd.func40, Tryd.ntmps40
    go_wp2_with fail
    go_ret
    exact ⟨rfl, rfl⟩
  · rw [if_neg h]
    have e : (k == 9) = false := by rw [beq_eq_false_iff_ne]; exact h
    clear h
    go_enter Tryd.func40, Tryd.ntmps40
    go_wp2_with fail
    go_ret
    exact ⟨rfl, rfl⟩
end Go.Proofs.YtpacgblddeoheaaDoor.M8
