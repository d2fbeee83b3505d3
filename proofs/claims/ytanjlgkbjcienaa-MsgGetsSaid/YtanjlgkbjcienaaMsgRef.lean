/- The document's messages: names, sizes, ids, Same. -/
import Derived.Test.YtanjlgkbjcienaaMsgEq
import Derived.BigRegion
namespace Go.Proofs.Ytanjlgkbjcienaa.M8
open Go.RowKit Go.Deep T7
set_option linter.unusedVariables false
set_option linter.unusedSimpArgs false
set_option maxRecDepth 100000
attribute [local go_sem ↓] Go.wp_at_zero Go.wp_at_succ

theorem name_yes (k : Int) (hk : Msgs.known k = true) (w : World) : Calls Try.prog 23 #[.int .i64 k] w fun e w' => e = .returned (.string ⟨(Msgs.shp k).cmd.toArray⟩) ∧ w = w' := by
  rcases Msgs.known_cases hk with rfl | rfl | rfl | rfl | rfl | rfl | rfl | rfl | rfl | rfl | rfl
  all_goals
    clear hk
    go_enter Try.func23, Try.ntmps23
    go_wp2_with fail
    go_ret
    exact ⟨rfl, rfl⟩
/-- how many bytes a body has; -1: that isn't fixed -/
def fixedOf (s : Msgs.Shape) : Int := if s.count = true ∨ s.tx = true then -1 else (Msgs.sizeOf s : Int)
theorem fixed_yes (k : Int) (hk : Msgs.known k = true) (w : World) : Calls Try.prog 24 #[.int .i64 k] w fun e w' => e = .returned (.int .i64 (fixedOf (Msgs.shp k))) ∧ w = w' := by
  rcases Msgs.known_cases hk with rfl | rfl | rfl | rfl | rfl | rfl | rfl | rfl | rfl | rfl | rfl
  all_goals
    clear hk
    go_enter Try.func24, Try.ntmps24
    go_wp2_with fail
    go_ret
    exact ⟨rfl, rfl⟩
set_option maxHeartbeats 2000000 in
theorem sameids_any (A A' : Option Addr) (n n' c c' B B' : Nat) (l l' : List (List UInt8)) (w : World) (hl : l.length = n) (hl' : l'.length = n') (hn : n ≤ 9223372036854775807) (hn' : n' ≤ 9223372036854775807) (h : HashesAt w B A l) (h' : HashesAt w B' A' l') :
    Calls Try.prog 29 #[.slice A n c, .slice A' n' c'] w fun r w' => r = .returned (.bool (decide (l = l'))) ∧ ∃ n, w' = w.drewN n := by
  have HO := Lib.hid h
  have HO' := Lib.hid h'
  have HN := Lib.hid hl
  have HN' := Lib.hid hl'
  clear h h'
  by_cases hnn : ¬ n = n'
  · have HD := Lib.hid (show decide (l = l') = false by rw [decide_eq_false_iff_not]; rintro rfl; omega)
    have hb : ((n : Int) != (n' : Int)) = true := by rw [bne_iff_ne]; omega
    clear hnn hl hl'
    go_enter Try.func29, Try.ntmps29
    go_wp2_with fail
    go_ret
    exact ⟨ret_bool HD.out.symm, 0, rfl⟩
  obtain rfl : n = n' := by omega
  clear hl hl' hnn
  go_enter Try.func29, Try.ntmps29
  go_wp2_with fail
  go_loopw [13] (fun i wr => ∃ k : Nat, k ≤ n ∧ i = .int .i64 (k : Int) ∧ Hid (l.take k = l'.take k) ∧ ∃ m, wr = w.drewN m) (fun i _ => n - (intOf i).toNat)
  case atStart => exact ⟨0, Nat.zero_le _, rfl, Lib.hid rfl, 0, rfl⟩
  case round =>
    obtain ⟨k, hk, rfl, ha, m, rfl⟩ := hrel
    by_cases hlt : k < n
    · have hlt1 : k < l.length := by rw [HN.out]; exact hlt
      have hlt2 : k < l'.length := by rw [HN'.out]; exact hlt
      obtain ⟨b, off, rfl, hbB, hr, hok⟩ := HO.out.range hlt1
      obtain ⟨b', off', rfl, hbB', hr', hok'⟩ := HO'.out.range hlt2
      have HSU := Lib.hid (fun hx => tk_succ hlt1 hlt2 ha.out hx)
      have HNX := Lib.hid (fun hx => show decide (l = l') = false from decide_eq_false (nth_ne hlt1 hlt2 hx))
      generalize l[k] = x at *
      generalize l'[k] = y at *
      have i1 : (0 : Int) ≤ (k : Int) := by omega
      have i2 : (k : Int) < (n : Int) := by omega
      have R1 := Lib.hid (show (w.drewN m).rangeAt b (off + k * 32) (x.map byteV) from hr)
      have R2 := Lib.hid (show (w.drewN m).rangeAt b' (off' + k * 32) (y.map byteV) from hr')
      have L1 := Lib.hid (show (x.map byteV).length = 32 by rw [List.length_map]; exact hok)
      have L2 := Lib.hid (show (y.map byteV).length = 32 by rw [List.length_map]; exact hok')
      have O1 := Lib.hid hok
      have O2 := Lib.hid hok'
      have HEQI := Lib.hid (show (!decide (x = y)) = false → x = y from fun h => by simpa using h)
      have HNEI := Lib.hid (show (!decide (x = y)) = true → x ≠ y from fun h => by simpa using h)
      clear hr hr' hok hok'
      go_wp2_with fail
      cases hpn : (!decide (x = y)) with
      | true =>
        have HF := Lib.hid (HNX.out (HNEI.out hpn))
        refine wp_region_quiet_lit (by kernel_rfl) (by kernel_rfl) ?_
        iterate 3 (go_big_quiet_step (fail))
        (refine wpQuiet_load_mid rfl 45 (.tmp 18) rfl b (off + k * 32) (by rfl) (x.map byteV) _ (fun w' ⟨n, e⟩ => by subst e; exact R1.out) Try.underlying45 rfl (by rw [L1.out]; exact size_hash) ?_; go_frame)
        iterate 3 (go_big_quiet_step (fail))
        (refine wpQuiet_load_mid rfl 45 (.tmp 22) rfl b' (off' + k * 32) (by rfl) (y.map byteV) _ (fun w' ⟨n, e⟩ => by subst e; exact R2.out) Try.underlying45 rfl (by rw [L2.out]; exact size_hash) ?_; go_frame)
        (refine wpQuiet_ne_hash rfl (.tmp 19) (.tmp 23) _ rfl x y O1.out O2.out (by rfl) (by rfl) true hpn ?_; go_frame)
        refine wpQuiet_nil ?_
        intro _ hw'
        obtain ⟨nq, hw''⟩ := hw'
        subst hw''
        go_wp2_with fail
        go_ret
        exact ⟨ret_bool HF.out.symm, m + nq, by first | rfl | simp⟩
      | false =>
        refine wp_region_quiet_lit (by kernel_rfl) (by kernel_rfl) ?_
        iterate 3 (go_big_quiet_step (fail))
        (refine wpQuiet_load_mid rfl 45 (.tmp 18) rfl b (off + k * 32) (by rfl) (x.map byteV) _ (fun w' ⟨n, e⟩ => by subst e; exact R1.out) Try.underlying45 rfl (by rw [L1.out]; exact size_hash) ?_; go_frame)
        iterate 3 (go_big_quiet_step (fail))
        (refine wpQuiet_load_mid rfl 45 (.tmp 22) rfl b' (off' + k * 32) (by rfl) (y.map byteV) _ (fun w' ⟨n, e⟩ => by subst e; exact R2.out) Try.underlying45 rfl (by rw [L2.out]; exact size_hash) ?_; go_frame)
        (refine wpQuiet_ne_hash rfl (.tmp 19) (.tmp 23) _ rfl x y O1.out O2.out (by rfl) (by rfl) false hpn ?_; go_frame)
        refine wpQuiet_nil ?_
        intro _ hw'
        obtain ⟨nq, hw''⟩ := hw'
        subst hw''
        have HTN := Lib.hid (HSU.out (HEQI.out hpn))
        go_wp2_with fail
        go_roundw
        case rel => exact ⟨k + 1, by omega, by go_num, HTN, m + nq, by first | rfl | simp⟩
        case measure => simp [intOf]; omega
    · have HD := Lib.hid (show decide (l = l') = true from decide_eq_true (take_all (by rw [HN.out]; omega) (by rw [HN'.out]; omega) ha.out))
      go_wp2_with fail
      go_ret
      exact ⟨ret_bool HD.out.symm, m, rfl⟩
set_option maxHeartbeats 2000000 in
theorem rsame_self8 (m : Msgs.Msg) (A A1 A2 A' A1' A2' : Option Addr) (c c1 c2 c' c1' c2' B B' : Nat) (w : World) (h : MsgAt w B m A c A1 c1 A2 c2) (h' : MsgAt w B' m A' c' A1' c1' A2' c2') (hB : B ≤ w.heap.size) (hB' : B' ≤ w.heap.size) :
    Calls Try.prog 12 #[msgV m A c A1 c1 A2 c2, msgV m A' c' A1' c1' A2' c2'] w fun e w' => e = .returned (.bool true) ∧ Below w.heap.size w w' := by
  have hn : m.ids.length ≤ 9223372036854775807 := by have h1 := h.ic; have h2 := h.im; unfold maxLen at h2; omega
  have HQ := Lib.hid (fun W (hb : Below w.heap.size w W) => sameids_any A A' _ _ c c' B B' m.ids m.ids W rfl rfl hn hn (At.below h.ids (hb.mono hB)) (At.below h'.ids (hb.mono hB')))
  have HT := Lib.hid (fun W (hb : Below w.heap.size w W) => rsame_any m.tx m.tx A1 A2 A1' A2' c1 c2 c1' c2' B B' W (h.tx.below (hb.mono hB)) (h'.tx.below (hb.mono hB')) (Nat.le_trans hB hb.size) (Nat.le_trans hB' hb.size))
  rw [decide_eq_true rfl] at HQ HT
  obtain ⟨wa, ma, hma, hva, hm7a, hwa, hba, hza, hka⟩ := msg_box w m A A1 A2 c c1 c2
  obtain ⟨wb, mb, hmb, hvb, hm7b, hwb, hbb, hzb, hkb⟩ := msg_box wa m A' A1' A2' c' c1' c2'
  have HBB := Lib.hid (hba.trans (hbb.mono hba.size))
  have HKA := Lib.hid (show Bk wb w.heap.size 32 ma by rw [hwb]; exact hka.alloc _)
  have HKB := Lib.hid hkb
  rw [hma] at HKA hwa
  rw [hmb] at HKB hwb
  have hgo : wb = (w.alloc (.cells #[.int .i64 m.kind, .int .u64 (m.n : Int), .int .u32 (m.code : Int), .slice A m.ids.length c, .int .u32 (m.tx.version : Int), .slice A1 m.tx.ins.length c1, .slice A2 m.tx.outs.length c2] 32)).alloc (.cells #[.int .i64 m.kind, .int .u64 (m.n : Int), .int .u32 (m.code : Int), .slice A' m.ids.length c', .int .u32 (m.tx.version : Int), .slice A1' m.tx.ins.length c1', .slice A2' m.tx.outs.length c2'] 32) := by rw [hwb, hwa]
  have hga : wa.heap.size = w.heap.size + 1 := hza
  rw [hga] at HKB
  have a4 := (HKA.out.cell 4).trans rfl
  have a5 := (HKA.out.cell 5).trans rfl
  have a6 := (HKA.out.cell 6).trans rfl
  unfold msgV
  unfold txV at HT
  clear hma hva hm7a hwa hba hza hka hmb hvb hm7b hwb hbb hzb hkb h h' hga a4 a5 a6
  go_enter Try.func12, Try.ntmps12
  go_wp2_with fail
  rw [← hgo]
  refine (HQ.out wb HBB.out).mono ?_
  rintro e w2 ⟨rfl, nd, rfl⟩
  have HBD := Lib.hid (below_drewN HBB.out nd)
  have a4 : (wb.drewN nd).cell? ⟨w.heap.size, 4, none⟩ = some (.int .u32 (m.tx.version : Int)) := (HKA.out.cell 4).trans rfl
  have a5 : (wb.drewN nd).cell? ⟨w.heap.size, 5, none⟩ = some (.slice A1 m.tx.ins.length c1) := (HKA.out.cell 5).trans rfl
  have a6 : (wb.drewN nd).cell? ⟨w.heap.size, 6, none⟩ = some (.slice A2 m.tx.outs.length c2) := (HKA.out.cell 6).trans rfl
  have b4 : (wb.drewN nd).cell? ⟨w.heap.size + 1, 4, none⟩ = some (.int .u32 (m.tx.version : Int)) := (HKB.out.cell 4).trans rfl
  have b5 : (wb.drewN nd).cell? ⟨w.heap.size + 1, 5, none⟩ = some (.slice A1' m.tx.ins.length c1') := (HKB.out.cell 5).trans rfl
  have b6 : (wb.drewN nd).cell? ⟨w.heap.size + 1, 6, none⟩ = some (.slice A2' m.tx.outs.length c2') := (HKB.out.cell 6).trans rfl
  generalize wb.drewN nd = wd at *
  clear hgo
  go_wp2_with fail
  refine (HT.out wd HBD.out).mono ?_
  rintro e w3 ⟨rfl, hb3⟩
  have HB3 := Lib.hid (HBD.out.trans (hb3.mono HBD.out.size))
  clear hb3
  go_wp2_with fail
  go_ret
  exact ⟨rfl, HB3.out⟩

theorem own_far8 {S : Nat → Prop} {w w' : World} {base : Nat} {e : TypeId} {size : Nat} {v : Value} {n : Nat} {xs : List Value} (h : w.ownsRow base e size v n xs) (hk : Kp S w w') (hn : ∀ g, v.ownBlock = some g → ¬ S g) : w'.ownsRow base e size v n xs := by
  refine ⟨h.1, ?_⟩
  rcases h.2 with h2 | ⟨g, cap, cur, hv, hb, hg, r⟩
  · exact .inl h2
  · have hgl : g < w.heap.size := (Array.getElem?_eq_some_iff.1 hg).1
    exact .inr ⟨g, cap, cur, hv, hb, (hk.block g hgl (hn g (by rw [hv]; rfl))).trans hg, r⟩
/-- hashes put together -/
theorem hashes_snoc : ∀ (n : Nat) (b : List UInt8), Msgs.hashes b (n + 1) = Msgs.hashes b n ++ [(b.drop (32 * n)).take 32]
  | 0, b => by simp [Msgs.hashes]
  | n + 1, b => by
    rw [Msgs.hashes, hashes_snoc n (b.drop 32), Msgs.hashes, List.cons_append, List.drop_drop, show 32 + 32 * n = 32 * (n + 1) by omega]
set_option maxHeartbeats 4000000 in
theorem ids_any (A : Option Addr) (L c B n : Nat) (b : List UInt8) (w : World) (hl : b.length = L) (hc : L ≤ c) (hm : c ≤ maxLen) (hat : BytesAt w B A b) (hB : B ≤ w.heap.size) (hn : 32 * n = L) (h32 : n ≤ 32) :
    Calls Try.prog 26 #[.slice A L c] w fun e w' => ∃ A' c', e = .returned (.slice A' n c') ∧ n ≤ c' ∧ c' ≤ maxLen ∧ HashesAt w' w'.heap.size A' (Msgs.hashes b n) ∧ (∀ a, A' = some a → w.heap.size ≤ a.block) ∧ Below w.heap.size w w' := by
  obtain ⟨i1, hi1, hy0, hy1, hy2⟩ := info_parts hash_info8
  have Hi := Lib.hid hi1
  have Hz := Lib.hid hy0
  have Hz1 := Lib.hid hy1
  have Hz2 := Lib.hid hy2
  have HL := Lib.hid hl
  have HAT := Lib.hid hat
  have HNL := Lib.hid hn
  obtain ⟨zs, hzs⟩ : ∃ zs, zs = bytesArr (List.replicate 32 (0 : UInt8)) := ⟨_, rfl⟩
  have HZH := Lib.hid (show (Try.prog.info? 45).map (·.zero) = some (some (.agg zs)) by rw [hzs]; exact zero_hash)
  have HZS := Lib.hid hzs
  have hL1 : L ≤ 1024 := by omega
  unfold maxLen at hm
  clear hi1 hy0 hy1 hy2 hl hat hzs hn
  go_enter Try.func26, Try.ntmps26
  go_wp2_with fail
  go_loopw [3, 4] (fun u v wr => ∃ k p : Nat, k ≤ n ∧ Hid (p = 32 * k) ∧ v = .int .i64 (p : Int) ∧ Hid (wr.ownsRow w.heap.size 45 32 u k ((Msgs.hashes b k).flatMap fun x => x.map byteV)) ∧ Hid (Below w.heap.size w wr)) (fun _ v _ => L + 32 - (intOf v).toNat)
  case atStart => exact ⟨0, 0, Nat.zero_le _, Lib.hid rfl, rfl, Lib.hid (World.ownsRow_nil _ _ _ _), Lib.hid (Below.refl _ _)⟩
  case round =>
    obtain ⟨k, p, hk, HP, rfl, hrow, hb⟩ := hrel
    by_cases hlt : k < n
    · have hp := HP.out
      obtain ⟨s, hs⟩ : ∃ s, s = (b.drop p).take 32 := ⟨_, rfl⟩
      have hsl : s.length = 32 := by rw [hs, List.length_take, List.length_drop, HL.out]; have := HNL.out; omega
      obtain ⟨bb, off, hA, hbB, -⟩ := HAT.out.cell (i := p) (by rw [HL.out]; have := HNL.out; omega)
      subst hA
      have hsat : BytesAt w B (some ⟨bb, off + p, none⟩) s := by rw [hs]; exact BytesAt.take (BytesAt.drop HAT.out (p)) 32
      obtain ⟨gk, hgk⟩ : ∃ gk, gk = wr.heap.size := ⟨_, rfl⟩
      obtain ⟨w1, hw1⟩ : ∃ w1, w1 = wr.alloc (.cells zs 45) := ⟨_, rfl⟩
      have HK1 := Lib.hid (show Bk w1 gk 45 (bytesArr (List.replicate 32 0)) by rw [hw1, hgk, ← HZS.out]; exact Bk.new _ _ _)
      have HB1 := Lib.hid (show Below w.heap.size w w1 by rw [hw1]; exact hb.out.alloc hb.out.size _)
      have HW1 := Lib.hid (show Below wr.heap.size wr w1 by rw [hw1]; exact Joins.below_alloc1 _ _)
      have HO1 := Lib.hid (own_below hrow.out HW1.out)
      have hz1 : w1.heap.size = gk + 1 := by rw [hw1, hgk]; simp
      have HZ1 := Lib.hid hz1
      have HGK := Lib.hid hgk
      have hgw : w.heap.size ≤ gk := by rw [hgk]; exact hb.out.size
      obtain ⟨w2, hcp, kb2, kk2⟩ := copy_row_bytes 45 w1.drew gk 0 32 32 B 32 (some ⟨bb, off + p, none⟩) (List.replicate 32 0) s HK1.out.drew (show BytesAt w1.drew B _ s from At.below hsat (HB1.out.drew.mono hB)) hsl (by omega) (by simp)
      have e32 : (List.replicate 32 (0 : UInt8)).take 0 ++ s.take 32 ++ (List.replicate 32 (0 : UInt8)).drop (0 + 32) = s := by
        rw [List.take_zero, List.nil_append, List.take_of_length_le (by omega), List.drop_of_length_le (by simp), List.append_nil]
      rw [e32] at kb2
      have HKB := Lib.hid kb2
      have HKK := Lib.hid kk2
      have HSL := Lib.hid hsl
      have HSN := Lib.hid (show Msgs.hashes b (k + 1) = Msgs.hashes b k ++ [s] by rw [hashes_snoc, hs, ← hp])
      have kz := kk2.size
      have hz2 : gk + 1 ≤ w2.heap.size := by rw [← HZ1.out]; exact kz
      have i1' : (p : Int) < (L : Int) := by have := HNL.out; omega
      have i2' : (0 : Int) ≤ (p : Int) := by omega
      have i3' : (p : Int) + 32 ≤ (L : Int) := by have := HNL.out; omega
      have i4' : (p : Int) + 32 ≤ (c : Int) := by omega
      have HCP := Lib.hid hcp
      have HL32 := Lib.hid (show p + 32 ≤ L by have := HNL.out; omega)
      have i5' : ¬ (c : Int) = (p : Int) := by omega
      clear hp hs hsl hsat kb2 kk2 e32 hcp kz hz1
      go_upto_region 6 with (refine wpList_allocOf rfl 45 rfl zs HZH.out ?_)
      rw [← hw1, ← hgk]
      have hcp := HCP.out
      clear hw1 hgk
      have r1 : IntKind.i64.wrap ((p : Int) + 32) = (p : Int) + 32 := IntWalk.i64_in _ (by omega)
      have r2 : ((p : Int) + 32).toNat = p + 32 := by omega
      have r3 : (0 : Int) ≤ (p : Int) + 32 := by omega
      have r4 : p + 32 - p = 32 := by omega
      simp only [Act.put, List.setIfInBounds_toArray, List.set_cons_zero, List.set_cons_succ]
      go_region
      clear r1 r2 r3 r4
      obtain ⟨hs, hhs⟩ : ∃ hs, hs = s.map byteV := ⟨_, rfl⟩
      have HHS := Lib.hid hhs
      have HHL := Lib.hid (show hs.length = 32 by rw [hhs, List.length_map]; exact HSL.out)
      have HHO := Lib.hid (show ∀ u ∈ hs, u.oneCell' = true by rw [hhs]; exact oneCell_bytes _)
      have HK2 := Lib.hid (show Bk w2 gk 45 hs.toArray by rw [hhs]; exact HKB.out)
      have HB2 := Lib.hid (Kp.from_elder HB1.out.drew HKK.out (fun i hi e => by omega))
      have HO2 := Lib.hid (own_far8 (show w1.drew.ownsRow w.heap.size 45 32 u3 k ((Msgs.hashes b k).flatMap fun x => x.map byteV) from HO1.out) HKK.out (fun g hg e => by
        have h1 := (hrow.out.lt g hg).2
        have h2 := HGK.out
        omega))
      clear hhs hcp
      go_wp2_with (first
        | (refine wpList_load_row rfl 45 (.tmp 5) rfl gk (by rfl) 45 hs.toArray (0, 0) _ HK2.out Try.underlying45 rfl (by rw [List.size_toArray, HHL.out]; exact size_hash) ?_)
        | (refine wpList_buildOne rfl 26 45 (.tmp 20) rfl hs.toArray (by rfl) Try.underlying26 (by rw [List.size_toArray, HHL.out]; exact size_hash) zs HZH.out (by rw [List.size_toArray, HHL.out]; omega) (by rw [List.size_toArray, HHL.out]; omega) ?_)
        | (at_builtin; refine wpList_app _ rfl (.tmp 19) (.tmp 21) _ rfl w.heap.size 45 i1 _ 32 32 Try.underlying26 Hi.out Hz.out Hz1.out Hz2.out rfl (by decide) u3 k _ (by rfl) (own_below HO2.out (Joins.below_alloc1 _ _)) (some ⟨w2.heap.size, 0, none⟩) 1 1 hs (by rfl) (by rw [HHL.out]) (Src.new _ _ _) HHO.out (by unfold maxLen; omega) (by omega) (by simp; omega) ?_; intro v' w' hrow' hg' hat'; have HRW := Lib.hid hrow'; have HGR := Lib.hid hg'; clear hrow' hg' hat'))
      go_roundw
      case rel =>
        refine ⟨k + 1, p + 32, by omega, Lib.hid (by rw [HP.out]; omega), by go_num, Lib.hid ?_, Lib.hid ?_⟩
        · rw [HSN.out, List.flatMap_append, List.flatMap_singleton, ← HHS.out]
          exact HRW.out
        · have hlt8 := (own_below HO2.out (Joins.below_alloc1 w2 (.cells hs.toArray 45))).lt
          exact (HB2.out.alloc HB2.out.size _).trans ⟨HGR.out.os, HGR.out.tape, HGR.out.output, HGR.out.size, fun i hi => HGR.out.block i (by have := HB2.out.size; simp; omega) (fun e => by have := (hlt8 i e.symm).1; omega)⟩
      case measure =>
        have := HL32.out
        simp [intOf]
        omega
    · obtain rfl : n = k := by omega
      have i9 : ¬ (p : Int) < (L : Int) := by have := HP.out; have := HNL.out; omega
      obtain ⟨A9, c9, rfl, h1, h2, hA9, _⟩ := own_form hrow.out
      obtain ⟨A9', c9', hv9, -, -, -, hat9⟩ := At.of_own (k := 32) (w := wr) (base := w.heap.size) (e := 45) (n := n) (R := IsHash) (v := .slice A9 n c9) (l := Msgs.hashes b n) (fun x : List UInt8 => x.map byteV) (fun x hx => by
        have := Msgs.hashes_ok n b (by rw [HL.out, ← HNL.out]; exact Nat.le_refl _) x hx
        exact ⟨by rw [List.length_map]; exact this, this, rfl⟩) (by omega) hrow.out
      injection hv9 with hv9 hva hvb
      subst hv9
      clear hva hvb
      have HAT9 := Lib.hid hat9
      have HA9 := Lib.hid hA9
      clear hat9 hA9
      go_wp2_with fail
      go_ret
      exact ⟨A9, c9, rfl, h1, h2, HAT9.out, fun a ha => (HA9.out a ha).1, hb.out⟩
end Go.Proofs.Ytanjlgkbjcienaa.M8
