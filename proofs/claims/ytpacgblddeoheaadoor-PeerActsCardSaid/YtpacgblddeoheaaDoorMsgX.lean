/- MsgX, merged: MsgE, MsgFr, MsgFa. -/
import Derived.Test.YtpacgblddeoheaaDoorMsgG
import Derived.Test.YtpacgblddeoheaaDoorFrA
/- Messages by msg.Same. -/
/- Messages by msg.Same. -/
namespace Go.Proofs.YtpacgblddeoheaaDoor.M8
open Go.RowKit Go.Deep T7
set_option linter.unusedVariables false
set_option linter.unusedSimpArgs false
set_option maxRecDepth 100000
attribute [local go_sem ↓] Go.wp_at_zero Go.wp_at_succ

theorem guard_hash8 : Tryd.prog.eqGuardType Tryd.prog.depth 93 = false := by kernel_rfl
theorem wpQuiet_ne_hash {ops : Array Oper} {C : World → Prop} {Q : Act → Prop} {a : Act} {o : Oper} {rest : List Oper} (hgd : o.guard = none) (x y : Operand) (b : TypeId) (ho : o.op = .binOp .neq 93 x y b)
    (p q : List UInt8) (hp : p.length = 32) (hq : q.length = 32) (hx : a.eval x = .agg (p.map byteV).toArray) (hy : a.eval y = .agg (q.map byteV).toArray) (r : Bool) (hr : (!decide (p = q)) = r)
    (h : wpQuiet Tryd.prog ops C Q rest (a.put o.dst (.bool r))) : wpQuiet Tryd.prog ops C Q (o :: rest) a :=
  wpQuiet_step fun K hK => by
    rw [if_pos (by simp [Region.wanted, hgd])]
    refine ⟨.bool r, fun w hw => ?_, hK _ h⟩
    subst hr
    unfold Oper.quietAt execOp
    simp only [ho, hx, hy, Sem.run_bind, run_eqGuard_agg w .neq 93 x y _ _ guard_hash8, Result.andThen_ok, run_ne_hash w p q hp hq, Sem.run_pure]
    exact ⟨rfl, rfl⟩
set_option maxHeartbeats 2000000 in
theorem heq_any (A A' : Option Addr) (n n' c c' B B' : Nat) (l l' : List (List UInt8)) (w : World) (hl : l.length = n) (hl' : l'.length = n') (hn : n ≤ 9223372036854775807) (hn' : n' ≤ 9223372036854775807) (h : HashesAt w B A l) (h' : HashesAt w B' A' l') :
    Calls Tryd.prog 47 #[.slice A n c, .slice A' n' c'] w fun r w' => r = .returned (.bool (decide (l = l'))) ∧ ∃ n, w' = w.drewN n := by
  have HO := Lib.hid h
  have HO' := Lib.hid h'
  have HN := Lib.hid hl
  have HN' := Lib.hid hl'
  clear h h'
  by_cases hnn : ¬ n = n'
  · have HD := Lib.hid (show decide (l = l') = false by rw [decide_eq_false_iff_not]; rintro rfl; omega)
    have hb : ((n : Int) != (n' : Int)) = true := by rw [bne_iff_ne]; omega
    clear hnn hl hl'
    go_enter Tryd.func47, Tryd.ntmps47
    go_wp2_with fail
    go_ret
    exact ⟨ret_bool HD.out.symm, 0, rfl⟩
  obtain rfl : n = n' := by omega
  clear hl hl' hnn
  go_enter Tryd.func47, Tryd.ntmps47
  go_wp2_with fail
  go_loopw [13] (fun i wr => ∃ k : Nat, k ≤ n ∧ i = .int .i64 (k : Int) ∧ Hid (l.take k = l'.take k) ∧ ∃ m, wr = w.drewN m) (fun i _ => n - (intOf i).toNat)
  case atStart => exact ⟨0, Nat.zero_le _, rfl, Lib.hid rfl, 0, rfl⟩
  case round =>
    obtain ⟨k, hk, rfl, ha, m, rfl⟩ := hrel
    by_cases hlt : k < n
    · have hlt1 : k < l.length := by rw [HN.out]; exact hlt
      have hlt2 : k < l'.length := by rw [HN'.out]; exact hlt
      obtain ⟨b, off, rfl, hbB, hr, hok⟩ := HO.out.range hlt1
      obtain ⟨b', off', rfl, hbB', hr', hok'⟩ := HO'.out.range hlt2
      have HSU := Lib.hid (fun hx => tk_succ hlt1 hlt2 ha.out hx)
      have HNX := Lib.hid (fun hx => show decide (l = l') = false from decide_eq_false (nth_ne hlt1 hlt2 hx))
      generalize l[k] = x at *
      generalize l'[k] = y at *
      have i1 : (0 : Int) ≤ (k : Int) := by omega
      have i2 : (k : Int) < (n : Int) := by omega
      have R1 := Lib.hid (show (w.drewN m).rangeAt b (off + k * 32) (x.map byteV) from hr)
      have R2 := Lib.hid (show (w.drewN m).rangeAt b' (off' + k * 32) (y.map byteV) from hr')
      have L1 := Lib.hid (show (x.map byteV).length = 32 by rw [List.length_map]; exact hok)
      have L2 := Lib.hid (show (y.map byteV).length = 32 by rw [List.length_map]; exact hok')
      have O1 := Lib.hid hok
      have O2 := Lib.hid hok'
      have HEQI := Lib.hid (show (!decide (x = y)) = false → x = y from fun h => by simpa using h)
      have HNEI := Lib.hid (show (!decide (x = y)) = true → x ≠ y from fun h => by simpa using h)
      clear hr hr' hok hok'
      go_wp2_with fail
      cases hpn : (!decide (x = y)) with
      | true =>
        have HF := Lib.hid (HNX.out (HNEI.out hpn))
        refine wp_region_quiet_lit (by kernel_rfl) (by kernel_rfl) ?_
        iterate 3 (go_big_quiet_step (fail))
        (refine wpQuiet_load_mid rfl 93 (.tmp 18) rfl b (off + k * 32) (by rfl) (x.map byteV) _ (fun w' ⟨n, e⟩ => by subst e; exact R1.out) Tryd.underlying93 rfl (by rw [L1.out]; exact size_hash) ?_; go_frame)
        iterate 3 (go_big_quiet_step (fail))
        (refine wpQuiet_load_mid rfl 93 (.tmp 22) rfl b' (off' + k * 32) (by rfl) (y.map byteV) _ (fun w' ⟨n, e⟩ => by subst e; exact R2.out) Tryd.underlying93 rfl (by rw [L2.out]; exact size_hash) ?_; go_frame)
        (refine wpQuiet_ne_hash rfl (.tmp 19) (.tmp 23) _ rfl x y O1.out O2.out (by rfl) (by rfl) true hpn ?_; go_frame)
        refine wpQuiet_nil ?_
        intro _ hw'
        obtain ⟨nq, hw''⟩ := hw'
        subst hw''
        go_wp2_with fail
        go_ret
        exact ⟨ret_bool HF.out.symm, m + nq, by first | rfl | simp⟩
      | false =>
        refine wp_region_quiet_lit (by kernel_rfl) (by kernel_rfl) ?_
        iterate 3 (go_big_quiet_step (fail))
        (refine wpQuiet_load_mid rfl 93 (.tmp 18) rfl b (off + k * 32) (by rfl) (x.map byteV) _ (fun w' ⟨n, e⟩ => by subst e; exact R1.out) Tryd.underlying93 rfl (by rw [L1.out]; exact size_hash) ?_; go_frame)
        iterate 3 (go_big_quiet_step (fail))
        (refine wpQuiet_load_mid rfl 93 (.tmp 22) rfl b' (off' + k * 32) (by rfl) (y.map byteV) _ (fun w' ⟨n, e⟩ => by subst e; exact R2.out) Tryd.underlying93 rfl (by rw [L2.out]; exact size_hash) ?_; go_frame)
        (refine wpQuiet_ne_hash rfl (.tmp 19) (.tmp 23) _ rfl x y O1.out O2.out (by rfl) (by rfl) false hpn ?_; go_frame)
        refine wpQuiet_nil ?_
        intro _ hw'
        obtain ⟨nq, hw''⟩ := hw'
        subst hw''
        have HTN := Lib.hid (HSU.out (HEQI.out hpn))
        go_wp2_with fail
        go_roundw
        case rel => exact ⟨k + 1, by omega, by go_num, HTN, m + nq, by first | rfl | simp⟩
        case measure => simp [intOf]; omega
    · have HD := Lib.hid (show decide (l = l') = true from decide_eq_true (take_all (by rw [HN.out]; omega) (by rw [HN'.out]; omega) ha.out))
      go_wp2_with fail
      go_ret
      exact ⟨ret_bool HD.out.symm, m, rfl⟩
/-! ### Same -/
def msRow (k mn mc : Int) (I : Value) (ver : Int) (i o : Value) : Array Value := #[.int .i64 k, .int .u64 mn, .int .u32 mc, I, .int .u32 ver, i, o]
theorem two_boxes (w : World) (C D : Array Value) : Below w.heap.size w ((w.alloc (.cells C 51)).alloc (.cells D 51)) := (Joins.below_alloc1 _ _).alloc (by simp) _
set_option maxHeartbeats 1000000 in
theorem msame_kind (k k' mn mn' mc mc' v v' : Int) (I I' i i' o o' : Value) (w : World) (h : (k == k') = false) :
    Calls Tryd.prog 28 #[.agg (msRow k mn mc I v i o), .agg (msRow k' mn' mc' I' v' i' o')] w fun e w' => e = .returned (.bool false) ∧ Below w.heap.size w w' := by
  unfold msRow
  go_enter Tryd.func28, Tryd.ntmps28
  go_wp2_with fail
  go_ret
  exact ⟨rfl, two_boxes w _ _⟩
set_option maxHeartbeats 1000000 in
theorem msame_n (k mn mn' mc mc' v v' : Int) (I I' i i' o o' : Value) (w : World) (h : (mn == mn') = false) :
    Calls Tryd.prog 28 #[.agg (msRow k mn mc I v i o), .agg (msRow k mn' mc' I' v' i' o')] w fun e w' => e = .returned (.bool false) ∧ Below w.heap.size w w' := by
  unfold msRow
  go_enter Tryd.func28, Tryd.ntmps28
  go_wp2_with fail
  go_ret
  exact ⟨rfl, two_boxes w _ _⟩
set_option maxHeartbeats 1000000 in
theorem msame_code (k mn mc mc' v v' : Int) (I I' i i' o o' : Value) (w : World) (h : (mc == mc') = false) :
    Calls Tryd.prog 28 #[.agg (msRow k mn mc I v i o), .agg (msRow k mn mc' I' v' i' o')] w fun e w' => e = .returned (.bool false) ∧ Below w.heap.size w w' := by
  unfold msRow
  go_enter Tryd.func28, Tryd.ntmps28
  go_wp2_with fail
  go_ret
  exact ⟨rfl, two_boxes w _ _⟩
set_option maxHeartbeats 2000000 in
theorem msame_ids (k mn mc v v' : Int) (i i' o o' : Value) (A A' : Option Addr) (n n' c c' B B' : Nat) (l l' : List (List UInt8)) (w : World) (hl : l.length = n) (hl' : l'.length = n') (hn : n ≤ maxLen) (hn' : n' ≤ maxLen) (h : HashesAt w B A l) (h' : HashesAt w B' A' l') (hB : B ≤ w.heap.size) (hB' : B' ≤ w.heap.size) (hne : l ≠ l') :
    Calls Tryd.prog 28 #[.agg (msRow k mn mc (.slice A n c) v i o), .agg (msRow k mn mc (.slice A' n' c') v' i' o')] w fun e w' => e = .returned (.bool false) ∧ Below w.heap.size w w' := by
  have HQ := Lib.hid (fun W (hb : Below w.heap.size w W) => heq_any A A' n n' c c' B B' l l' W hl hl' (by unfold maxLen at hn; omega) (by unfold maxLen at hn'; omega) (At.below h (hb.mono hB)) (At.below h' (hb.mono hB')))
  rw [decide_eq_false hne] at HQ
  unfold msRow
  obtain ⟨w1, hw1⟩ : ∃ w1, w1 = (w.alloc (.cells #[.int .i64 k, .int .u64 mn, .int .u32 mc, .slice A n c, .int .u32 v, i, o] 51)).alloc (.cells #[.int .i64 k, .int .u64 mn, .int .u32 mc, .slice A' n' c', .int .u32 v', i', o'] 51) := ⟨_, rfl⟩
  have HB1 := Lib.hid (show Below w.heap.size w w1 by rw [hw1]; exact two_boxes w _ _)
  clear hl hl' h h' hne hw1
  go_enter Tryd.func28, Tryd.ntmps28
  go_wp2_with fail
  refine (HQ.out _ (two_boxes w _ _)).mono ?_
  rintro e w2 ⟨rfl, nd, rfl⟩
  go_wp2_with fail
  go_ret
  exact ⟨rfl, below_drewN (two_boxes w _ _) nd⟩
set_option maxHeartbeats 2000000 in
theorem msame_self (m : Msgs.Msg) (A A1 A2 A' A1' A2' : Option Addr) (c c1 c2 c' c1' c2' B B' : Nat) (w : World) (h : MsgAt w B m A c A1 c1 A2 c2) (h' : MsgAt w B' m A' c' A1' c1' A2' c2') (hB : B ≤ w.heap.size) (hB' : B' ≤ w.heap.size) :
    Calls Tryd.prog 28 #[msgV m A c A1 c1 A2 c2, msgV m A' c' A1' c1' A2' c2'] w fun e w' => e = .returned (.bool true) ∧ Below w.heap.size w w' := by
  have hn : m.ids.length ≤ 9223372036854775807 := by have h1 := h.ic; have h2 := h.im; unfold maxLen at h2; omega
  have HQ := Lib.hid (fun W (hb : Below w.heap.size w W) => heq_any A A' _ _ c c' B B' m.ids m.ids W rfl rfl hn hn (At.below h.ids (hb.mono hB)) (At.below h'.ids (hb.mono hB')))
  have HT := Lib.hid (fun W (hb : Below w.heap.size w W) => same7_any m.tx m.tx A1 A2 A1' A2' c1 c2 c1' c2' B B' W (h.tx.below (hb.mono hB)) (h'.tx.below (hb.mono hB')) (Nat.le_trans hB hb.size) (Nat.le_trans hB' hb.size))
  rw [decide_eq_true rfl] at HQ HT
  obtain ⟨wa, ma, hma, hva, hm7a, hwa, hba, hza, hka⟩ := msg_box w m A A1 A2 c c1 c2
  obtain ⟨wb, mb, hmb, hvb, hm7b, hwb, hbb, hzb, hkb⟩ := msg_box wa m A' A1' A2' c' c1' c2'
  have HBB := Lib.hid (hba.trans (hbb.mono hba.size))
  have HKA := Lib.hid (show Bk wb w.heap.size 51 ma by rw [hwb]; exact hka.alloc _)
  have HKB := Lib.hid hkb
  rw [hma] at HKA hwa
  rw [hmb] at HKB hwb
  have hgo : wb = (w.alloc (.cells #[.int .i64 m.kind, .int .u64 (m.n : Int), .int .u32 (m.code : Int), .slice A m.ids.length c, .int .u32 (m.tx.version : Int), .slice A1 m.tx.ins.length c1, .slice A2 m.tx.outs.length c2] 51)).alloc (.cells #[.int .i64 m.kind, .int .u64 (m.n : Int), .int .u32 (m.code : Int), .slice A' m.ids.length c', .int .u32 (m.tx.version : Int), .slice A1' m.tx.ins.length c1', .slice A2' m.tx.outs.length c2'] 51) := by rw [hwb, hwa]
  have hga : wa.heap.size = w.heap.size + 1 := hza
  rw [hga] at HKB
  have a4 := (HKA.out.cell 4).trans rfl
  have a5 := (HKA.out.cell 5).trans rfl
  have a6 := (HKA.out.cell 6).trans rfl
  unfold msgV
  unfold txV at HT
  clear hma hva hm7a hwa hba hza hka hmb hvb hm7b hwb hbb hzb hkb h h' hga a4 a5 a6
  go_enter Tryd.func28, Tryd.ntmps28
  go_wp2_with fail
  rw [← hgo]
  refine (HQ.out wb HBB.out).mono ?_
  rintro e w2 ⟨rfl, nd, rfl⟩
  have HBD := Lib.hid (below_drewN HBB.out nd)
  have a4 : (wb.drewN nd).cell? ⟨w.heap.size, 4, none⟩ = some (.int .u32 (m.tx.version : Int)) := (HKA.out.cell 4).trans rfl
  have a5 : (wb.drewN nd).cell? ⟨w.heap.size, 5, none⟩ = some (.slice A1 m.tx.ins.length c1) := (HKA.out.cell 5).trans rfl
  have a6 : (wb.drewN nd).cell? ⟨w.heap.size, 6, none⟩ = some (.slice A2 m.tx.outs.length c2) := (HKA.out.cell 6).trans rfl
  have b4 : (wb.drewN nd).cell? ⟨w.heap.size + 1, 4, none⟩ = some (.int .u32 (m.tx.version : Int)) := (HKB.out.cell 4).trans rfl
  have b5 : (wb.drewN nd).cell? ⟨w.heap.size + 1, 5, none⟩ = some (.slice A1' m.tx.ins.length c1') := (HKB.out.cell 5).trans rfl
  have b6 : (wb.drewN nd).cell? ⟨w.heap.size + 1, 6, none⟩ = some (.slice A2' m.tx.outs.length c2') := (HKB.out.cell 6).trans rfl
  generalize wb.drewN nd = wd at *
  clear hgo
  go_wp2_with fail
  refine (HT.out wd HBD.out).mono ?_
  rintro e w3 ⟨rfl, hb3⟩
  have HB3 := Lib.hid (HBD.out.trans (hb3.mono HBD.out.size))
  clear hb3
  go_wp2_with fail
  go_ret
  exact ⟨rfl, HB3.out⟩
end Go.Proofs.YtpacgblddeoheaaDoor.M8
/- A message's frame. -/
/- A message's frame (package msg); what a body's length is. -/
namespace Go.Proofs.YtpacgblddeoheaaDoor.M8
open Go.RowKit Go.Deep T7
set_option linter.unusedVariables false
set_option linter.unusedSimpArgs false
set_option maxRecDepth 100000
attribute [local go_sem ↓] Go.wp_at_zero Go.wp_at_succ

theorem put_len8 {m : Msgs.Msg} (hk : m.Ok) {c b : List UInt8} (h : Msgs.put m = (c, b, 0)) : b.length ≤ 2000 := by
  obtain ⟨f, hc, hd⟩ := Msgs.put_iff.1 h
  clear h
  rcases hd with ⟨ht, hf, hb⟩ | ⟨ht, hb⟩
  · rw [hb]; exact Txs.bytes_small hk.tx hf
  · rw [hb]
    by_cases hq : (Msgs.shp m.kind).count = true
    · obtain ⟨h1, h2, h3, h4⟩ := Msgs.body_count hk f hq
      rw [h4, List.length_append, h3, Oct.var_length]
      have := Oct.size_pos m.ids.length
      omega
    · have hq : (Msgs.shp m.kind).count = false := by simpa using hq
      obtain ⟨h1, h2, h3, h4⟩ := Msgs.body_plain hk f hq
      have hfa := Msgs.facts m.kind
      have h5 := hfa.ids hq
      have h6 := hfa.code
      have h7 := hfa.n
      rw [h4]; unfold Msgs.sizeOf
      omega
theorem data_of8 (c : List UInt8) : (⟨c.toArray⟩ : ByteArray).data.toList = c := by simp
theorem size_of8 (c : List UInt8) : (⟨c.toArray⟩ : ByteArray).size = c.length := by rw [← str_len]
theorem cmd_named {k : Int} (h : Msgs.known k = true) : Frm.named (Msgs.shp k).cmd = true := by
  rcases Msgs.known_cases h with rfl | rfl | rfl | rfl | rfl | rfl | rfl | rfl | rfl | rfl | rfl <;> decide
theorem put_named {m : Msgs.Msg} {c b : List UInt8} (h : Msgs.put m = (c, b, 0)) : Frm.named c = true := by
  obtain ⟨hk, _, rfl⟩ := Msgs.put_known h
  exact cmd_named hk
theorem put_err {m : Msgs.Msg} {c b : List UInt8} {e : Int} (h : Msgs.put m = (c, b, e)) (he : e ≠ 0) : c = [] ∧ b = [] := by
  unfold Msgs.put at h
  split at h
  · injection h with h1 h2; injection h2 with h2 h3; exact ⟨h1.symm, h2.symm⟩
  · split at h
    · split at h
      · injection h with h1 h2; injection h2 with h2 h3; exact absurd h3.symm he
      · injection h with h1 h2; injection h2 with h2 h3; exact ⟨h1.symm, h2.symm⟩
    · injection h with h1 h2; injection h2 with h2 h3; exact absurd h3.symm he
set_option maxHeartbeats 4000000 in
theorem mframe_no (m : Msgs.Msg) (A A1 A2 : Option Addr) (c c1 c2 B : Nat) (w : World) (h : MsgAt w B m A c A1 c1 A2 c2) (hB : B ≤ w.heap.size) (cmd body : List UInt8) (er : Int) (hx : Msgs.put m = (cmd, body, er)) (he : er ≠ 0) :
    Calls Tryd.prog 27 #[msgV m A c A1 c1 A2 c2] w fun e w' => e = .returned (.tuple #[.slice none 0 0, .int .i64 er]) ∧ Below w.heap.size w w' := by
  have HP := Lib.hid (fun W (hb : Below w.heap.size w W) => mput_any m A A1 A2 c c1 c2 B W (h.below (hb.mono hB)) (Nat.le_trans hB hb.size))
  obtain ⟨w1, ms, hms, hv, hms7, hw1, hb1, hz1, hk1⟩ := msg_box w m A A1 A2 c c1 c2
  have HB1 := Lib.hid hb1
  have HK1 := Lib.hid hk1
  have HM7 := Lib.hid hms7
  rw [hv, hx] at HP
  rw [hv]
  have e1 : (er != 0) = true := by rw [bne_iff_ne]; exact he
  clear hb1 hk1 hms7 hms hv h hx he hz1
  go_enter Tryd.func27, Tryd.ntmps27
  go_upto_region 1 with (fail)
  rw [← hw1]
  clear hw1
  go_wp2_with (refine wpList_load_row rfl 51 (.tmp 1) rfl w.heap.size (by rfl) 51 ms (0, 0) _ HK1.out Tryd.underlying51 rfl (by rw [HM7.out]; exact size_msg) ?_)
  refine (HP.out w1 HB1.out).mono ?_
  rintro e w2 ⟨v2, rfl, ho2, hb2⟩
  simp only at ho2 ⊢
  have HB2 := Lib.hid (HB1.out.trans (hb2.mono HB1.out.size))
  clear hb2 HP
  go_wp2_with fail
  go_ret2
  exact ⟨rfl, HB2.out⟩
set_option maxHeartbeats 4000000 in
theorem mframe_yes (m : Msgs.Msg) (A A1 A2 : Option Addr) (c c1 c2 B : Nat) (w : World) (h : MsgAt w B m A c A1 c1 A2 c2) (hB : B ≤ w.heap.size) (cmd body : List UInt8) (hx : Msgs.put m = (cmd, body, 0)) (hlay : Laid w) :
    Calls Tryd.prog 27 #[msgV m A c A1 c1 A2 c2] w fun e w' => ∃ v, e = .returned (.tuple #[v, .int .i64 0]) ∧ OwnB w' w.heap.size v (Frm.put cmd body) ∧ Below w.heap.size w w' := by
  have HP := Lib.hid (fun W (hb : Below w.heap.size w W) => mput_any m A A1 A2 c c1 c2 B W (h.below (hb.mono hB)) (Nat.le_trans hB hb.size))
  have HN := Lib.hid (put_named hx)
  have HL := Lib.hid (put_len8 h.ok hx)
  have HLAY := Lib.hid hlay
  obtain ⟨w1, ms, hms, hv, hms7, hw1, hb1, hz1, hk1⟩ := msg_box w m A A1 A2 c c1 c2
  have HB1 := Lib.hid hb1
  have HK1 := Lib.hid hk1
  have HM7 := Lib.hid hms7
  rw [hv, hx] at HP
  rw [hv]
  clear hb1 hk1 hms7 hms hv h hx hlay hz1
  go_enter Tryd.func27, Tryd.ntmps27
  go_upto_region 1 with (fail)
  rw [← hw1]
  clear hw1
  go_wp2_with (refine wpList_load_row rfl 51 (.tmp 1) rfl w.heap.size (by rfl) 51 ms (0, 0) _ HK1.out Tryd.underlying51 rfl (by rw [HM7.out]; exact size_msg) ?_)
  refine (HP.out w1 HB1.out).mono ?_
  rintro e w2 ⟨v2, rfl, ho2, hb2⟩
  simp only at ho2 ⊢
  have HB2 := Lib.hid (HB1.out.trans (hb2.mono HB1.out.size))
  clear hb2 HP
  obtain ⟨A2', c2', rfl, hc2, hm2, hat2, _⟩ := ho2.at_
  have HPUT := Lib.hid (put_yes ⟨cmd.toArray⟩ A2' c2' w2.heap.size body w2 (HLAY.out.below HB2.out) (by rw [size_of8]; have := (named_len HN.out).2.1; omega) (by rw [data_of8]; exact HN.out) (by have := HL.out; omega) hat2 (Nat.le_refl _) hc2 hm2)
  rw [data_of8] at HPUT
  clear ho2 hc2 hm2 hat2
  go_wp2_with fail
  refine HPUT.out.mono ?_
  rintro e w3 ⟨v3, rfl, ho3, hb3⟩
  have HO3 := Lib.hid (own_mono ho3 HB2.out.size)
  have HB3 := Lib.hid (HB2.out.trans (hb3.mono HB2.out.size))
  clear ho3 hb3 HPUT
  go_wp2_with fail
  go_ret2
  exact ⟨v3, rfl, HO3.out, HB3.out⟩
end Go.Proofs.YtpacgblddeoheaaDoor.M8
/- A message's frame, whichever; its lane. -/
namespace Go.Proofs.YtpacgblddeoheaaDoor.M8
open Go.RowKit Go.Deep T7
set_option linter.unusedVariables false
set_option linter.unusedSimpArgs false
set_option maxRecDepth 100000
attribute [local go_sem ↓] Go.wp_at_zero Go.wp_at_succ

theorem lane_any (k : Int) (w : World) : Calls Tryd.prog 44 #[.int .i64 k] w fun e w' => e = .returned (.int .i64 (if k = 9 then 1 else 0)) ∧ w = w' := by
  by_cases h : k = 9
  · rw [if_pos h]
    have e : (k == 9) = true := by rw [beq_iff_eq]; exact h
    clear h
    go_enter Tryd.func44, Tryd.ntmps44
    go_wp2_with fail
    go_ret
    exact ⟨rfl, rfl⟩
  · rw [if_neg h]
    have e : (k == 9) = false := by rw [beq_eq_false_iff_ne]; exact h
    clear h
    go_enter Tryd.func44, Tryd.ntmps44
    go_wp2_with fail
    go_ret
    exact ⟨rfl, rfl⟩
theorem mframe_any8 (m : Msgs.Msg) (A A1 A2 : Option Addr) (c c1 c2 B : Nat) (w : World) (h : MsgAt w B m A c A1 c1 A2 c2) (hB : B ≤ w.heap.size) (cmd body : List UInt8) (er : Int) (fb : List UInt8) (hx : Msgs.put m = (cmd, body, er)) (h1 : er = 0 → fb = Frm.put cmd body) (h2 : er ≠ 0 → fb = []) (hlay : Laid w) :
    Calls Tryd.prog 27 #[msgV m A c A1 c1 A2 c2] w fun e w' => ∃ v, e = .returned (.tuple #[v, .int .i64 er]) ∧ OwnB w' w.heap.size v fb ∧ Below w.heap.size w w' := by
  by_cases he : er = 0
  · subst he
    rw [h1 rfl]
    exact mframe_yes m A A1 A2 c c1 c2 B w h hB cmd body hx hlay
  · rw [h2 he]
    exact (mframe_no m A A1 A2 c c1 c2 B w h hB cmd body er hx he).mono fun e w' ⟨hr, hb⟩ => ⟨_, hr, own_nil _ _, hb⟩
end Go.Proofs.YtpacgblddeoheaaDoor.M8
