/- The document's frames: what a head says. -/
import Derived.Test.YteebehmmfkapgaaDoorRef05Head
namespace Go.Proofs.YteebehmmfkapgaaDoor
open Go.RowKit Go.Deep
set_option linter.unusedVariables false
set_option linter.unusedSimpArgs false
set_option maxRecDepth 100000
attribute [local go_sem ↓] Go.wp_at_zero Go.wp_at_succ
theorem info_rhead : (Tryd.prog.info? 79).map (·.size) = some 3 := by kernel_rfl
theorem cut_at : ∀ (d : List UInt8) (j : Nat) (hj : j < d.length), j ≤ (Frm.cut0 d).length → (d[j] = 0 → (Frm.cut0 d).length = j) ∧ (d[j] ≠ 0 → j + 1 ≤ (Frm.cut0 d).length)
  | [], j, hj, _ => by simp at hj
  | x :: d, j, hj, h => by
    unfold Frm.cut0 at h ⊢
    by_cases hx : x = 0
    · rw [List.takeWhile_cons_of_neg (by simp [hx])] at h ⊢
      have hj0 : j = 0 := by simpa using h
      subst hj0
      exact ⟨fun _ => rfl, fun hn => absurd hx hn⟩
    · rw [List.takeWhile_cons_of_pos (by simp [hx])] at h ⊢
      cases j with
      | zero => exact ⟨fun hn => absurd hn hx, fun _ => by simp⟩
      | succ j =>
        have := cut_at d j (by simpa using hj) (by unfold Frm.cut0; simpa using h)
        unfold Frm.cut0 at this
        simpa using this
theorem cut_le (d : List UInt8) : (Frm.cut0 d).length ≤ d.length := List.IsPrefix.length_le (List.takeWhile_prefix _)
theorem cut_take (d : List UInt8) : d.take (Frm.cut0 d).length = Frm.cut0 d := by
  have h := List.takeWhile_append_dropWhile (p := (· != (0 : UInt8))) (l := d)
  unfold Frm.cut0
  rw [show (List.take (List.takeWhile (· != (0 : UInt8)) d).length d) = List.take (List.takeWhile (· != (0 : UInt8)) d).length (List.takeWhile (· != 0) d ++ List.dropWhile (· != 0) d) from by rw [h]]
  exact List.take_left' rfl
theorem all_zero_next (d : List UInt8) (j m : Nat) (h : j ≤ m) (hm : m < d.length) : ((d.drop j).take (m + 1 - j)).all (· == 0) = (((d.drop j).take (m - j)).all (· == 0) && (d[m] == 0)) := by
  have hl : m - j < (d.drop j).length := by rw [List.length_drop]; omega
  rw [show m + 1 - j = m - j + 1 by omega, List.take_succ_eq_append_getElem hl, List.all_append]
  simp only [List.all_cons, List.all_nil, Bool.and_true, List.getElem_drop]
  congr 3
  omega
theorem refName_eq (d cs : List UInt8) (h : cs = if (d.drop (Frm.cut0 d).length).all (· == 0) then Frm.cut0 d else []) : Frm.refName d = if Frm.named cs then cs else [] := by
  unfold Frm.refName
  by_cases ha : (d.drop (Frm.cut0 d).length).all (· == 0) = true
  · rw [if_pos ha] at h
    rw [h, ha, Bool.true_and]
  · rw [if_neg ha] at h
    rw [h, if_neg (by simp [ha])]
    simp
theorem rhead_short (A : Option Addr) (n c : Nat) (l : List UInt8) (w : World) (hl : l.length = n) (h : n ≠ 24) :
    Calls Tryd.prog 31 #[.slice A n c] w fun e w' => e = .returned (headV (Frm.head l)) ∧ Below w.heap.size w w' := by
  have HF := Lib.hid (show Frm.head l = (⟨[], 0, 0⟩, 2) by unfold Frm.head; rw [if_pos (by rw [hl]; exact h)])
  have h' : ((n : Int) != 24) = true := by rw [bne_iff_ne]; omega
  clear hl h
  go_enter Tryd.func31, Tryd.ntmps31
  go_wp2_with fail
  refine bodyPost_ret (results_cell_tmp_row rfl _ _ w.heap.size 79 #[.string ⟨#[]⟩, .int .i64 0, .int .u32 0] (0, 0) _ rfl (Bk.new _ _ _) Tryd.underlying79 rfl info_rhead (.int .i64 2) rfl) rfl ⟨?_, ?_⟩
  · rw [HF.out]; rfl
  · exact Joins.below_alloc1 _ _
set_option maxHeartbeats 1000000 in
theorem rhead_yes (q off c B : Nat) (l : List UInt8) (w : World) (hl : l.length = 24) (h : BytesAt w B (some ⟨q, off, none⟩) l) (hB : B ≤ w.heap.size) (hc : 24 ≤ c) :
    Calls Tryd.prog 31 #[.slice (some ⟨q, off, none⟩) 24 c] w fun e w' => e = .returned (headV (Frm.head l)) ∧ Below w.heap.size w w' := by
  have HH := Lib.hid h
  have HLN := Lib.hid hl
  have hc4 : (4 : Int) ≤ (c : Int) := by omega
  clear h hl
  go_enter Tryd.func31, Tryd.ntmps31
  go_upto_region 3 with (fail)
  obtain ⟨w2, hw2⟩ : ∃ w2, w2 = (w.alloc (.cells #[.string ⟨#[]⟩, .int .i64 0, .int .u32 0] 79)) := ⟨_, rfl⟩
  rw [← hw2]
  have r2 : Bk w2 w.heap.size 79 #[.string ⟨#[]⟩, .int .i64 0, .int .u32 0] := by rw [hw2]; exact Bk.new w _ _
  have b2 : Below w.heap.size w w2 := by rw [hw2]; exact Joins.below_alloc1 _ _
  have HR2 := Lib.hid r2
  have HB2 := Lib.hid b2
  clear hw2 r2 b2
  have l4t : (l.take 4).length = 4 := by rw [List.length_take, HLN.out]; rfl
  have HL4 := Lib.hid l4t
  clear l4t
  go_region_held3 (fun w' => True) (trivial) ((first
    | (go_at_call 36; refine (magic_ref _).mono ?_; rintro e w' ⟨g, rfl, hg, hk, hbm⟩)
    | (go_at_call 22; refine (same_any (some ⟨q, off, none⟩) (some ⟨g, 0, none⟩) 4 4 c 4 (l.take 4) Frm.magic _ B _ HL4.out rfl (by omega) (by omega) ((BytesAt.take HH.out 4).below ((HB2.out.drew.trans (hbm.mono (by have := HB2.out.size; simpa using this))).mono hB)) (hk.bytesAt hk.lt)).mono ?_; rintro e w'' ⟨rfl, nq, rfl⟩)))
  have hz2 : w.heap.size < w2.heap.size := HR2.out.lt
  obtain ⟨w4, hw4⟩ : ∃ w4, w4 = w'.drewN nq := ⟨_, rfl⟩
  rw [← hw4]
  have HR4 := Lib.hid (show Bk w4 w.heap.size 79 #[.string ⟨#[]⟩, .int .i64 0, .int .u32 0] by rw [hw4]; exact (HR2.out.drew.below hbm (by simpa using hz2)).drewN nq)
  have HB4 := Lib.hid (show Below w.heap.size w w4 by rw [hw4]; exact below_drewN (HB2.out.drew.trans (hbm.mono (by have := HB2.out.size; simpa using this))) nq)
  have r0 := HR4.out.cell 0
  have r1 := HR4.out.cell 1
  have r2 := HR4.out.cell 2
  have rf := HR4.out.frozen
  simp only [List.getElem?_toArray, List.getElem?_cons_zero, List.getElem?_cons_succ] at r0 r1 r2
  have hset : ∀ (y0 y1 y2 : Value), Hid (Bk (((w4.setCell ⟨w.heap.size, 0, none⟩ y0).setCell ⟨w.heap.size, 1, none⟩ y1).setCell ⟨w.heap.size, 2, none⟩ y2) w.heap.size 79 #[y0, y1, y2]) := fun y0 y1 y2 => Lib.hid (by
    have := ((HR4.out.set 0 y0).set 1 y1).set 2 y2
    simpa using this)
  have hlow : ∀ (y0 y1 y2 : Value), Hid (Below w.heap.size w (((w4.setCell ⟨w.heap.size, 0, none⟩ y0).setCell ⟨w.heap.size, 1, none⟩ y1).setCell ⟨w.heap.size, 2, none⟩ y2)) := fun y0 y1 y2 => Lib.hid (((HB4.out.setCell (Nat.le_refl _) _).setCell (Nat.le_refl _) _).setCell (Nat.le_refl _) _)
  clear hw4 hbm hk hg HB2 HR2
  by_cases hmag : l.take 4 = Frm.magic
  · rw [show decide (l.take 4 = Frm.magic) = true from decide_eq_true hmag]
    have HMG := Lib.hid hmag
    have HAT := HH.out.below (HB4.out.mono hB)
    have hat16 := BytesAt.take (BytesAt.drop HAT 16) 4
    have hat20 := BytesAt.take (BytesAt.drop HAT 20) 4
    have hat4 := BytesAt.take (BytesAt.drop HAT 4) 12
    have l16 : ((l.drop 16).take 4).length = 4 := by rw [List.length_take, List.length_drop, HLN.out]; rfl
    have l20 : ((l.drop 20).take 4).length = 4 := by rw [List.length_take, List.length_drop, HLN.out]; rfl
    have t20 : (l.drop 20).take 4 = l.drop 20 := List.take_of_length_le (by rw [List.length_drop, HLN.out]; omega)
    have l4 : ((l.drop 4).take 12).length = 12 := by rw [List.length_take, List.length_drop, HLN.out]; rfl
    have v16 := Oct.val_lt ((l.drop 16).take 4)
    have v20 := Oct.val_lt ((l.drop 20).take 4)
    have G16 : ∀ cap, Hid _ := fun cap => Lib.hid (rget_yes (some ⟨q, off + 16, none⟩) cap B ((l.drop 16).take 4) (.inr (.inr (.inl l16))) w4 hat16)
    have G20 : ∀ cap, Hid _ := fun cap => Lib.hid (rget_yes (some ⟨q, off + 20, none⟩) cap B ((l.drop 20).take 4) (.inr (.inr (.inl l20))) w4 hat20)
    rw [l16] at G16 v16
    rw [l20] at G20 v20
    obtain ⟨x, hx⟩ : ∃ x, x = Oct.val ((l.drop 16).take 4) := ⟨_, rfl⟩
    obtain ⟨y, hy⟩ : ∃ y, y = Oct.val (l.drop 20) := ⟨_, rfl⟩
    rw [t20, ← hy] at G20 v20
    rw [← hx] at G16 v16
    obtain ⟨d, hd⟩ : ∃ d, d = (l.drop 4).take 12 := ⟨_, rfl⟩
    rw [← hd] at hat4 l4
    have hx' : x < 4294967296 := by simpa using v16
    have hy' : y < 4294967296 := by simpa using v20
    have HX := Lib.hid hx
    have HY := Lib.hid hy
    have HD := Lib.hid hd
    have HL12 := Lib.hid l4
    have HA4 := Lib.hid hat4
    have n16 : ¬ (c = 16) := by omega
    have n20 : ¬ (c = 20) := by omega
    have n4 : ¬ (c = 4) := by omega
    clear hmag HAT hat16 hat20 hat4 l16 l20 l4 v16 v20 hx hy hd t20
    go_wp2_with fail
    refine (G16 _).out.mono ?_
    rintro e w5 ⟨rfl, rfl⟩
    go_wp2_with fail
    refine (G20 _).out.mono ?_
    rintro e w5 ⟨rfl, rfl⟩
    by_cases hbig : 2048 < x
    · have hbig' : (2048 : Int) < (x : Int) := by omega
      have HF := Lib.hid (show Frm.head l = (⟨[], 0, 0⟩, 5) by
        unfold Frm.head
        rw [if_neg (by rw [HLN.out]; simp), if_neg (by rw [HMG.out]; simp), if_pos (by rw [← HX.out]; exact hbig)])
      go_wp2_with fail
      refine bodyPost_ret (results_cell_tmp_row rfl _ _ w.heap.size 79 #[.string ⟨#[]⟩, .int .i64 0, .int .u32 0] (0, 0) _ rfl (hset _ _ _).out Tryd.underlying79 rfl info_rhead (.int .i64 5) rfl) rfl ⟨?_, ?_⟩
      · rw [HF.out]; rfl
      · exact (hlow _ _ _).out
    · have hbig' : ¬ (2048 : Int) < (x : Int) := by omega
      have HF := Lib.hid (show Frm.head l = (⟨Frm.refName d, x, y⟩, 0) by
        unfold Frm.head
        rw [if_neg (by rw [HLN.out]; simp), if_neg (by rw [HMG.out]; simp), if_neg (by rw [← HX.out]; exact hbig), Frm.name_ref d (by rw [HL12.out]; omega), HX.out, HY.out, HD.out])
      clear G16 G20
      go_wp2_with fail
      go_loop [8] (fun i => ∃ j : Nat, j ≤ (Frm.cut0 d).length ∧ i = .int .i64 (4 + (j : Int))) (fun i => 16 - (intOf i).toNat)
      case atStart => exact ⟨0, Nat.zero_le _, rfl⟩
      case round =>
        obtain ⟨j, hj, rfl⟩ := hrel
        have hj12 : j ≤ 12 := by have h1 := cut_le d; have := HL12.out; omega
        by_cases hlt : j < 12
        · have hlt' : (4 : Int) + (j : Int) < 16 := by omega
          obtain ⟨q2, off2, hA2, _, hcj⟩ := HA4.out.cell (i := j) (by rw [HL12.out]; exact hlt)
          cases hA2
          rw [Nat.add_assoc] at hcj
          obtain ⟨hc0, hc1⟩ := cut_at d j (by rw [HL12.out]; exact hlt) hj
          by_cases hz : d[j]'(by rw [HL12.out]; exact hlt) = 0
          · have hjc : j = (Frm.cut0 d).length := (hc0 hz).symm
            rw [hz] at hcj
            clear hc0 hc1 hz
            have hd12 := HL12.out
            have htl : (d.take j).length = j := by rw [List.length_take]; omega
            have hbt := BytesAt.take HA4.out j
            have hcb := run_convert_bytes_back (P := Tryd.prog) w4 28 9 5 ⟨q, off + 4, none⟩ (c - 4) (d.take j) Tryd.underlying28 Tryd.underlying5 Tryd.underlying9 (fun t ht => by
              obtain ⟨q2, off2, hA2, _, hc2⟩ := hbt.cell ht
              cases hA2
              have e : (⟨q, off + 4, none⟩ : Addr).add t = ⟨q, off + 4 + t, none⟩ := by unfold Addr.add; split <;> simp_all
              rw [e]; exact hc2)
            rw [htl, hjc, cut_take, ← hjc] at hcb
            have hj4 : (4 : Int) + (j : Int) ≤ (c : Int) := by omega
            have hjm : (4 : Int) ≤ 4 + (j : Int) := by omega
            have HJC := Lib.hid hjc
            have HD12 := Lib.hid hd12
            clear htl hbt hjc hd12
            obtain ⟨ct, hct⟩ : ∃ ct, ct = Frm.cut0 d := ⟨_, rfl⟩
            rw [← hct] at hcb
            have HCT := Lib.hid hct
            clear hct
            go_wp2_with fail
            go_loop [9, 10] (fun cmd i => ∃ m : Nat, j ≤ m ∧ m ≤ 12 ∧ i = .int .i64 (4 + (m : Int)) ∧ ∃ cs : List UInt8, cmd = .string ⟨cs.toArray⟩ ∧ Hid (cs = if ((d.drop j).take (m - j)).all (· == 0) then ct else [])) (fun cmd i => 16 - (intOf i).toNat)
            case atStart => exact ⟨j, Nat.le_refl _, by omega, rfl, ct, rfl, Lib.hid (by rw [Nat.sub_self]; simp)⟩
            case round =>
              clear hcb
              obtain ⟨m, hjm2, hm12, rfl, cs, rfl, hcs⟩ := hrel
              by_cases hlt : m < 12
              · have hlt' : (4 : Int) + (m : Int) < 16 := by omega
                obtain ⟨q2, off2, hA2, _, hcm⟩ := HA4.out.cell (i := m) (by rw [HD12.out]; exact hlt)
                cases hA2
                rw [Nat.add_assoc] at hcm
                have HNX := Lib.hid (all_zero_next d j m hjm2 (by rw [HD12.out]; exact hlt))
                by_cases hz : d[m]'(by rw [HD12.out]; exact hlt) = 0
                · rw [hz] at hcm
                  rw [hz] at HNX
                  go_wp2_with fail
                  go_round
                  case rel => exact ⟨m + 1, by omega, by omega, by go_num, cs, rfl, Lib.hid (by rw [HNX.out, hcs.out]; simp)⟩
                  case measure => simp [intOf]; omega
                · have hnz : (((d[m]'(by rw [HD12.out]; exact hlt)).toNat : Int) != 0) = true := by
                    rw [bne_iff_ne]; intro e; apply hz; apply UInt8.toNat_inj.1; show _ = 0; omega
                  have hbz : ((d[m]'(by rw [HD12.out]; exact hlt)) == 0) = false := by rw [beq_eq_false_iff_ne]; exact hz
                  rw [hbz] at HNX
                  clear hbz hz
                  generalize d[m]'(by rw [HD12.out]; exact hlt) = z at *
                  go_wp2_with fail
                  go_round
                  case rel => exact ⟨m + 1, by omega, by omega, by go_num, [], rfl, Lib.hid (by rw [HNX.out]; simp)⟩
                  case measure => simp [intOf]; omega
              · obtain rfl : m = 12 := by omega
                have hfin : Frm.refName d = if Frm.named cs then cs else [] := by
                  refine refName_eq d cs ?_
                  rw [hcs.out, HCT.out, ← HJC.out, List.take_of_length_le (by rw [List.length_drop, HD12.out]; omega)]
                have hcl : cs.length ≤ 12 := by
                  have h1 := cut_le d
                  have := HD12.out
                  rw [hcs.out]; split
                  · rw [HCT.out]; omega
                  · simp
                have HFN := Lib.hid hfin
                have HNM := Lib.hid (named_ref ⟨cs.toArray⟩ w4 (by show cs.toArray.size ≤ _; rw [List.size_toArray]; omega))
                rw [show (⟨cs.toArray⟩ : ByteArray).data.toList = cs from rfl] at HNM
                clear hcs hfin
                go_wp2_with fail
                refine HNM.out.mono ?_
                rintro e w5 ⟨rfl, rfl⟩
                cases hnm : Frm.named cs with
                | true =>
                  rw [hnm] at HFN
                  clear hnm
                  go_wp2_with fail
                  refine bodyPost_ret (results_cell_tmp_row rfl _ _ w.heap.size 79 #[.string ⟨cs.toArray⟩, .int .i64 (x : Int), .int .u32 (y : Int)] (0, 0) _ rfl (hset _ _ _).out Tryd.underlying79 rfl info_rhead (.int .i64 0) rfl) rfl ⟨?_, ?_⟩
                  · rw [HF.out, HFN.out]; rfl
                  · exact (hlow _ _ _).out
                | false =>
                  rw [hnm] at HFN
                  clear hnm
                  go_wp2_with fail
                  refine bodyPost_ret (results_cell_tmp_row rfl _ _ w.heap.size 79 #[.string ⟨#[]⟩, .int .i64 (x : Int), .int .u32 (y : Int)] (0, 0) _ rfl (hset _ _ _).out Tryd.underlying79 rfl info_rhead (.int .i64 0) rfl) rfl ⟨?_, ?_⟩
                  · rw [HF.out, HFN.out]; rfl
                  · exact (hlow _ _ _).out
          · have hnz : (((d[j]'(by rw [HL12.out]; exact hlt)).toNat : Int) != 0) = true := by
              rw [bne_iff_ne]; intro e; apply hz; apply UInt8.toNat_inj.1; show _ = 0; omega
            have hj1 := hc1 hz
            clear hc0 hc1 hz
            generalize d[j]'(by rw [HL12.out]; exact hlt) = z at *
            go_wp2_with fail
            go_round
            case rel => exact ⟨j + 1, hj1, by go_num⟩
            case measure => simp [intOf]; omega
        · have hj12' : j = 12 := by omega
          have hlt' : ¬ (4 : Int) + (j : Int) < 16 := by omega
          have hjc : j = (Frm.cut0 d).length := by have h1 := cut_le d; have := HL12.out; omega
          clear hj12'
          have hd12 := HL12.out
          have htl : (d.take j).length = j := by rw [List.length_take]; omega
          have hbt := BytesAt.take HA4.out j
          have hcb := run_convert_bytes_back (P := Tryd.prog) w4 28 9 5 ⟨q, off + 4, none⟩ (c - 4) (d.take j) Tryd.underlying28 Tryd.underlying5 Tryd.underlying9 (fun t ht => by
            obtain ⟨q2, off2, hA2, _, hc2⟩ := hbt.cell ht
            cases hA2
            have e : (⟨q, off + 4, none⟩ : Addr).add t = ⟨q, off + 4 + t, none⟩ := by unfold Addr.add; split <;> simp_all
            rw [e]; exact hc2)
          rw [htl, hjc, cut_take, ← hjc] at hcb
          have hj4 : (4 : Int) + (j : Int) ≤ (c : Int) := by omega
          have hjm : (4 : Int) ≤ 4 + (j : Int) := by omega
          have HJC := Lib.hid hjc
          have HD12 := Lib.hid hd12
          clear htl hbt hjc hd12
          obtain ⟨ct, hct⟩ : ∃ ct, ct = Frm.cut0 d := ⟨_, rfl⟩
          rw [← hct] at hcb
          have HCT := Lib.hid hct
          clear hct
          go_wp2_with fail
          go_loop [9, 10] (fun cmd i => ∃ m : Nat, j ≤ m ∧ m ≤ 12 ∧ i = .int .i64 (4 + (m : Int)) ∧ ∃ cs : List UInt8, cmd = .string ⟨cs.toArray⟩ ∧ Hid (cs = if ((d.drop j).take (m - j)).all (· == 0) then ct else [])) (fun cmd i => 16 - (intOf i).toNat)
          case atStart => exact ⟨j, Nat.le_refl _, by omega, rfl, ct, rfl, Lib.hid (by rw [Nat.sub_self]; simp)⟩
          case round =>
            clear hcb
            obtain ⟨m, hjm2, hm12, rfl, cs, rfl, hcs⟩ := hrel
            by_cases hlt : m < 12
            · have hlt' : (4 : Int) + (m : Int) < 16 := by omega
              obtain ⟨q2, off2, hA2, _, hcm⟩ := HA4.out.cell (i := m) (by rw [HD12.out]; exact hlt)
              cases hA2
              rw [Nat.add_assoc] at hcm
              have HNX := Lib.hid (all_zero_next d j m hjm2 (by rw [HD12.out]; exact hlt))
              by_cases hz : d[m]'(by rw [HD12.out]; exact hlt) = 0
              · rw [hz] at hcm
                rw [hz] at HNX
                go_wp2_with fail
                go_round
                case rel => exact ⟨m + 1, by omega, by omega, by go_num, cs, rfl, Lib.hid (by rw [HNX.out, hcs.out]; simp)⟩
                case measure => simp [intOf]; omega
              · have hnz : (((d[m]'(by rw [HD12.out]; exact hlt)).toNat : Int) != 0) = true := by
                  rw [bne_iff_ne]; intro e; apply hz; apply UInt8.toNat_inj.1; show _ = 0; omega
                have hbz : ((d[m]'(by rw [HD12.out]; exact hlt)) == 0) = false := by rw [beq_eq_false_iff_ne]; exact hz
                rw [hbz] at HNX
                clear hbz hz
                generalize d[m]'(by rw [HD12.out]; exact hlt) = z at *
                go_wp2_with fail
                go_round
                case rel => exact ⟨m + 1, by omega, by omega, by go_num, [], rfl, Lib.hid (by rw [HNX.out]; simp)⟩
                case measure => simp [intOf]; omega
            · obtain rfl : m = 12 := by omega
              have hfin : Frm.refName d = if Frm.named cs then cs else [] := by
                refine refName_eq d cs ?_
                rw [hcs.out, HCT.out, ← HJC.out, List.take_of_length_le (by rw [List.length_drop, HD12.out]; omega)]
              have hcl : cs.length ≤ 12 := by
                have h1 := cut_le d
                have := HD12.out
                rw [hcs.out]; split
                · rw [HCT.out]; omega
                · simp
              have HFN := Lib.hid hfin
              have HNM := Lib.hid (named_ref ⟨cs.toArray⟩ w4 (by show cs.toArray.size ≤ _; rw [List.size_toArray]; omega))
              rw [show (⟨cs.toArray⟩ : ByteArray).data.toList = cs from rfl] at HNM
              clear hcs hfin
              go_wp2_with fail
              refine HNM.out.mono ?_
              rintro e w5 ⟨rfl, rfl⟩
              cases hnm : Frm.named cs with
              | true =>
                rw [hnm] at HFN
                clear hnm
                go_wp2_with fail
                refine bodyPost_ret (results_cell_tmp_row rfl _ _ w.heap.size 79 #[.string ⟨cs.toArray⟩, .int .i64 (x : Int), .int .u32 (y : Int)] (0, 0) _ rfl (hset _ _ _).out Tryd.underlying79 rfl info_rhead (.int .i64 0) rfl) rfl ⟨?_, ?_⟩
                · rw [HF.out, HFN.out]; rfl
                · exact (hlow _ _ _).out
              | false =>
                rw [hnm] at HFN
                clear hnm
                go_wp2_with fail
                refine bodyPost_ret (results_cell_tmp_row rfl _ _ w.heap.size 79 #[.string ⟨#[]⟩, .int .i64 (x : Int), .int .u32 (y : Int)] (0, 0) _ rfl (hset _ _ _).out Tryd.underlying79 rfl info_rhead (.int .i64 0) rfl) rfl ⟨?_, ?_⟩
                · rw [HF.out, HFN.out]; rfl
                · exact (hlow _ _ _).out
  · rw [show decide (l.take 4 = Frm.magic) = false from decide_eq_false hmag]
    have HF := Lib.hid (show Frm.head l = (⟨[], 0, 0⟩, 6) by
      unfold Frm.head
      rw [if_neg (by rw [HLN.out]; simp), if_pos hmag])
    go_wp2_with fail
    refine bodyPost_ret (results_cell_tmp_row rfl _ _ w.heap.size 79 #[.string ⟨#[]⟩, .int .i64 0, .int .u32 0] (0, 0) _ rfl (hset _ _ _).out Tryd.underlying79 rfl info_rhead (.int .i64 6) rfl) rfl ⟨?_, ?_⟩
    · rw [HF.out]; rfl
    · exact (hlow _ _ _).out
end Go.Proofs.YteebehmmfkapgaaDoor
