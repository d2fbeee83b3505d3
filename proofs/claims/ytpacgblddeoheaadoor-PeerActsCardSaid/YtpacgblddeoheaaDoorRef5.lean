/- Ref5, merged: Ref05Head, Ref05Head2, Ref05Get. -/
import Derived.Test.YtpacgblddeoheaaDoorRefR
import Derived.Test.YtpacgblddeoheaaDoorRefO
import Derived.Test.YtpacgblddeoheaaDoorFrA
/- The document's frames: heads. -/
set_option linter.unusedVariables false
set_option linter.unusedSimpArgs false
namespace Go.Proofs.YtpacgblddeoheaaDoor.Frm
/-- the letters up to the first nought, if noughts alone stand behind it -/
def cut0 (l : List UInt8) : List UInt8 := l.takeWhile (· != 0)
def refName (l : List UInt8) : List UInt8 := if (l.drop (cut0 l).length).all (· == 0) && named (cut0 l) then cut0 l else []
theorem letter_zero : letter 0 = false := by decide
theorem all_letter_ne {l : List UInt8} (h : l.all letter = true) : ∀ x ∈ l, (x != 0) = true := by
  intro x hx
  have := List.all_eq_true.1 h x hx
  rw [bne_iff_ne]
  rintro rfl
  rw [letter_zero] at this; cases this
theorem cut0_zeros {s : List UInt8} (h : s.all letter = true) (n : Nat) : cut0 (s ++ List.replicate n 0) = s := by
  unfold cut0
  rw [List.takeWhile_append_of_pos (all_letter_ne h)]
  cases n with
  | zero => simp
  | succ n => rw [List.replicate_succ, List.takeWhile_cons_of_neg (by decide), List.append_nil]
theorem strip_split (l : List UInt8) : ∃ n, l = strip l ++ List.replicate n 0 := by
  refine ⟨(l.reverse.takeWhile (· == 0)).length, ?_⟩
  have h := List.takeWhile_append_dropWhile (p := (· == (0 : UInt8))) (l := l.reverse)
  have h2 : l = (l.reverse.dropWhile (· == 0)).reverse ++ (l.reverse.takeWhile (· == 0)).reverse := by
    rw [← List.reverse_append, h, List.reverse_reverse]
  have h3 : (l.reverse.takeWhile (· == 0)).reverse = List.replicate (l.reverse.takeWhile (· == 0)).length 0 := by
    rw [List.eq_replicate_iff]
    refine ⟨by simp, fun x hx => ?_⟩
    have h4 := List.mem_reverse.1 hx
    have h5 := List.all_eq_true.1 (List.all_takeWhile (p := (· == (0 : UInt8))) (l := l.reverse)) x h4
    simpa using h5
  rw [← h3]
  exact h2
theorem name_ref (l : List UInt8) (hl : l.length ≤ 12) : refName l = name l := by
  obtain ⟨n, hn⟩ := strip_split l
  unfold name
  by_cases h0 : strip l = []
  · rw [if_pos h0]
    rw [h0, List.nil_append] at hn
    unfold refName
    have hc : cut0 l = [] := by
      rw [hn]
      have := cut0_zeros (s := []) rfl n
      simpa using this
    rw [hc]; simp
  · rw [if_neg h0]
    by_cases ha : (strip l).all letter = true
    · rw [if_pos ha]
      have hc : cut0 l = strip l := by
        have := cut0_zeros ha n
        rw [← hn] at this
        exact this
      unfold refName
      have hsl : (strip l).length ≤ l.length := by
        have h := congrArg List.length hn
        rw [List.length_append] at h
        omega
      have hz : (l.drop (strip l).length).all (· == 0) = true := by
        have : l.drop (strip l).length = List.replicate n 0 := by
          have h := congrArg (List.drop (strip l).length) hn
          rw [List.drop_left] at h
          exact h
        rw [this]; simp
      have hnm : named (strip l) = true := by
        unfold named; rw [ha]; simp [h0]; omega
      rw [hc, hz, hnm]; rfl
    · rw [if_neg ha]
      unfold refName
      rw [if_neg]
      intro h
      rw [Bool.and_eq_true] at h
      obtain ⟨h1, h2⟩ := h
      obtain ⟨k0, _, k2⟩ := named_len h2
      apply ha
      have hsp := List.takeWhile_append_dropWhile (p := (· != (0 : UInt8))) (l := l)
      have hd : l.drop (cut0 l).length = List.replicate (l.drop (cut0 l).length).length 0 := by
        rw [List.eq_replicate_iff]
        refine ⟨rfl, fun x hx => ?_⟩
        simpa using List.all_eq_true.1 h1 x hx
      have hl2 : l = cut0 l ++ List.replicate (l.drop (cut0 l).length).length 0 := by
        have h3 : l.take (cut0 l).length = cut0 l := by
          have h4 := congrArg (List.take (cut0 l).length) hsp
          unfold cut0
          rw [show (List.take (List.takeWhile (· != (0 : UInt8)) l).length l) = List.take (List.takeWhile (· != (0 : UInt8)) l).length (List.takeWhile (· != 0) l ++ List.dropWhile (· != 0) l) from by rw [hsp]]
          rw [List.take_left']
          rfl
        have h5 := (List.take_append_drop (cut0 l).length l).symm
        rw [h3, hd] at h5
        simpa using h5
      have hst : strip l = cut0 l := by
        have h6 := strip_zeros (cut0 l) (l.drop (cut0 l).length).length (named_last h2)
        rw [← hl2] at h6
        exact h6
      rw [hst]; exact k2
end Go.Proofs.YtpacgblddeoheaaDoor.Frm
/- The document's frames: what a head says. -/
namespace Go.Proofs.YtpacgblddeoheaaDoor
open Go.RowKit Go.Deep
set_option linter.unusedVariables false
set_option linter.unusedSimpArgs false
set_option maxRecDepth 100000
attribute [local go_sem ↓] Go.wp_at_zero Go.wp_at_succ
theorem info_rhead : (Tryd.prog.info? 170).map (·.size) = some 3 := by kernel_rfl
theorem cut_at : ∀ (d : List UInt8) (j : Nat) (hj : j < d.length), j ≤ (Frm.cut0 d).length → (d[j] = 0 → (Frm.cut0 d).length = j) ∧ (d[j] ≠ 0 → j + 1 ≤ (Frm.cut0 d).length)
  | [], j, hj, _ => by simp at hj
  | x :: d, j, hj, h => by
    unfold Frm.cut0 at h ⊢
    by_cases hx : x = 0
    · rw [List.takeWhile_cons_of_neg (by simp [hx])] at h ⊢
      have hj0 : j = 0 := by simpa using h
      subst hj0
      exact ⟨fun _ => rfl, fun hn => absurd hx hn⟩
    · rw [List.takeWhile_cons_of_pos (by simp [hx])] at h ⊢
      cases j with
      | zero => exact ⟨fun hn => absurd hn hx, fun _ => by simp⟩
      | succ j =>
        have := cut_at d j (by simpa using hj) (by unfold Frm.cut0; simpa using h)
        unfold Frm.cut0 at this
        simpa using this
theorem cut_le (d : List UInt8) : (Frm.cut0 d).length ≤ d.length := List.IsPrefix.length_le (List.takeWhile_prefix _)
theorem cut_take (d : List UInt8) : d.take (Frm.cut0 d).length = Frm.cut0 d := by
  have h := List.takeWhile_append_dropWhile (p := (· != (0 : UInt8))) (l := d)
  unfold Frm.cut0
  rw [show (List.take (List.takeWhile (· != (0 : UInt8)) d).length d) = List.take (List.takeWhile (· != (0 : UInt8)) d).length (List.takeWhile (· != 0) d ++ List.dropWhile (· != 0) d) from by rw [h]]
  exact List.take_left' rfl
theorem all_zero_next (d : List UInt8) (j m : Nat) (h : j ≤ m) (hm : m < d.length) : ((d.drop j).take (m + 1 - j)).all (· == 0) = (((d.drop j).take (m - j)).all (· == 0) && (d[m] == 0)) := by
  have hl : m - j < (d.drop j).length := by rw [List.length_drop]; omega
  rw [show m + 1 - j = m - j + 1 by omega, List.take_succ_eq_append_getElem hl, List.all_append]
  simp only [List.all_cons, List.all_nil, Bool.and_true, List.getElem_drop]
  congr 3
  omega
theorem refName_eq (d cs : List UInt8) (h : cs = if (d.drop (Frm.cut0 d).length).all (· == 0) then Frm.cut0 d else []) : Frm.refName d = if Frm.named cs then cs else [] := by
  unfold Frm.refName
  by_cases ha : (d.drop (Frm.cut0 d).length).all (· == 0) = true
  · rw [if_pos ha] at h
    rw [h, ha, Bool.true_and]
  · rw [if_neg ha] at h
    rw [h, if_neg (by simp [ha])]
    simp
theorem rhead_short (A : Option Addr) (n c : Nat) (l : List UInt8) (w : World) (hl : l.length = n) (h : n ≠ 24) :
    Calls Tryd.prog 79 #[.slice A n c] w fun e w' => e = .returned (headV (Frm.head l)) ∧ Below w.heap.size w w' := by
  have HF := Lib.hid (show Frm.head l = (⟨[], 0, 0⟩, 2) by unfold Frm.head; rw [if_pos (by rw [hl]; exact h)])
  have h' : ((n : Int) != 24) = true := by rw [bne_iff_ne]; omega
  clear hl h
  go_enter Tryd.func79, Tryd.ntmps79
  go_wp2_with fail
  refine bodyPost_ret (results_cell_tmp_row rfl _ _ w.heap.size 170 #[.string ⟨#[]⟩, .int .i64 0, .int .u32 0] (0, 0) _ rfl (Bk.new _ _ _) Tryd.underlying170 rfl info_rhead (.int .i64 2) rfl) rfl ⟨?_, ?_⟩
  · rw [HF.out]; rfl
  · exact Joins.below_alloc1 _ _
set_option maxHeartbeats 1000000 in
theorem rhead_yes (q off c B : Nat) (l : List UInt8) (w : World) (hl : l.length = 24) (h : BytesAt w B (some ⟨q, off, none⟩) l) (hB : B ≤ w.heap.size) (hc : 24 ≤ c) :
    Calls Tryd.prog 79 #[.slice (some ⟨q, off, none⟩) 24 c] w fun e w' => e = .returned (headV (Frm.head l)) ∧ Below w.heap.size w w' := by
  have HH := Lib.hid h
  have HLN := Lib.hid hl
  have hc4 : (4 : Int) ≤ (c : Int) := by omega
  clear h hl
  go_enter Tryd.func79, Tryd.ntmps79
  go_upto_region 3 with (fail)
  obtain ⟨w2, hw2⟩ : ∃ w2, w2 = (w.alloc (.cells #[.string ⟨#[]⟩, .int .i64 0, .int .u32 0] 170)) := ⟨_, rfl⟩
  rw [← hw2]
  have r2 : Bk w2 w.heap.size 170 #[.string ⟨#[]⟩, .int .i64 0, .int .u32 0] := by rw [hw2]; exact Bk.new w _ _
  have b2 : Below w.heap.size w w2 := by rw [hw2]; exact Joins.below_alloc1 _ _
  have HR2 := Lib.hid r2
  have HB2 := Lib.hid b2
  clear hw2 r2 b2
  have l4t : (l.take 4).length = 4 := by rw [List.length_take, HLN.out]; rfl
  have HL4 := Lib.hid l4t
  clear l4t
  go_region_held3 (fun w' => True) (trivial) ((first
    | (go_at_call 93; refine (magic_ref _).mono ?_; rintro e w' ⟨g, rfl, hg, hk, hbm⟩)
    | (go_at_call 78; refine (same_any (some ⟨q, off, none⟩) (some ⟨g, 0, none⟩) 4 4 c 4 (l.take 4) Frm.magic _ B _ HL4.out rfl (by omega) (by omega) ((BytesAt.take HH.out 4).below ((HB2.out.drew.trans (hbm.mono (by have := HB2.out.size; simpa using this))).mono hB)) (hk.bytesAt hk.lt)).mono ?_; rintro e w'' ⟨rfl, nq, rfl⟩)))
  have hz2 : w.heap.size < w2.heap.size := HR2.out.lt
  obtain ⟨w4, hw4⟩ : ∃ w4, w4 = w'.drewN nq := ⟨_, rfl⟩
  rw [← hw4]
  have HR4 := Lib.hid (show Bk w4 w.heap.size 170 #[.string ⟨#[]⟩, .int .i64 0, .int .u32 0] by rw [hw4]; exact (HR2.out.drew.below hbm (by simpa using hz2)).drewN nq)
  have HB4 := Lib.hid (show Below w.heap.size w w4 by rw [hw4]; exact below_drewN (HB2.out.drew.trans (hbm.mono (by have := HB2.out.size; simpa using this))) nq)
  have r0 := HR4.out.cell 0
  have r1 := HR4.out.cell 1
  have r2 := HR4.out.cell 2
  have rf := HR4.out.frozen
  simp only [List.getElem?_toArray, List.getElem?_cons_zero, List.getElem?_cons_succ] at r0 r1 r2
  have hset : ∀ (y0 y1 y2 : Value), Hid (Bk (((w4.setCell ⟨w.heap.size, 0, none⟩ y0).setCell ⟨w.heap.size, 1, none⟩ y1).setCell ⟨w.heap.size, 2, none⟩ y2) w.heap.size 170 #[y0, y1, y2]) := fun y0 y1 y2 => Lib.hid (by
    have := ((HR4.out.set 0 y0).set 1 y1).set 2 y2
    simpa using this)
  have hlow : ∀ (y0 y1 y2 : Value), Hid (Below w.heap.size w (((w4.setCell ⟨w.heap.size, 0, none⟩ y0).setCell ⟨w.heap.size, 1, none⟩ y1).setCell ⟨w.heap.size, 2, none⟩ y2)) := fun y0 y1 y2 => Lib.hid (((HB4.out.setCell (Nat.le_refl _) _).setCell (Nat.le_refl _) _).setCell (Nat.le_refl _) _)
  clear hw4 hbm hk hg HB2 HR2
  by_cases hmag : l.take 4 = Frm.magic
  · rw [show decide (l.take 4 = Frm.magic) = true from decide_eq_true hmag]
    have HMG := Lib.hid hmag
    have HAT := HH.out.below (HB4.out.mono hB)
    have hat16 := BytesAt.take (BytesAt.drop HAT 16) 4
    have hat20 := BytesAt.take (BytesAt.drop HAT 20) 4
    have hat4 := BytesAt.take (BytesAt.drop HAT 4) 12
    have l16 : ((l.drop 16).take 4).length = 4 := by rw [List.length_take, List.length_drop, HLN.out]; rfl
    have l20 : ((l.drop 20).take 4).length = 4 := by rw [List.length_take, List.length_drop, HLN.out]; rfl
    have t20 : (l.drop 20).take 4 = l.drop 20 := List.take_of_length_le (by rw [List.length_drop, HLN.out]; omega)
    have l4 : ((l.drop 4).take 12).length = 12 := by rw [List.length_take, List.length_drop, HLN.out]; rfl
    have v16 := Oct.val_lt ((l.drop 16).take 4)
    have v20 := Oct.val_lt ((l.drop 20).take 4)
    have G16 : ∀ cap, Hid _ := fun cap => Lib.hid (rget_yes (some ⟨q, off + 16, none⟩) cap B ((l.drop 16).take 4) (.inr (.inr (.inl l16))) w4 hat16)
    have G20 : ∀ cap, Hid _ := fun cap => Lib.hid (rget_yes (some ⟨q, off + 20, none⟩) cap B ((l.drop 20).take 4) (.inr (.inr (.inl l20))) w4 hat20)
    rw [l16] at G16 v16
    rw [l20] at G20 v20
    obtain ⟨x, hx⟩ : ∃ x, x = Oct.val ((l.drop 16).take 4) := ⟨_, rfl⟩
    obtain ⟨y, hy⟩ : ∃ y, y = Oct.val (l.drop 20) := ⟨_, rfl⟩
    rw [t20, ← hy] at G20 v20
    rw [← hx] at G16 v16
    obtain ⟨d, hd⟩ : ∃ d, d = (l.drop 4).take 12 := ⟨_, rfl⟩
    rw [← hd] at hat4 l4
    have hx' : x < 4294967296 := by simpa using v16
    have hy' : y < 4294967296 := by simpa using v20
    have HX := Lib.hid hx
    have HY := Lib.hid hy
    have HD := Lib.hid hd
    have HL12 := Lib.hid l4
    have HA4 := Lib.hid hat4
    have n16 : ¬ (c = 16) := by omega
    have n20 : ¬ (c = 20) := by omega
    have n4 : ¬ (c = 4) := by omega
    clear hmag HAT hat16 hat20 hat4 l16 l20 l4 v16 v20 hx hy hd t20
    go_wp2_with fail
    refine (G16 _).out.mono ?_
    rintro e w5 ⟨rfl, rfl⟩
    go_wp2_with fail
    refine (G20 _).out.mono ?_
    rintro e w5 ⟨rfl, rfl⟩
    by_cases hbig : 2048 < x
    · have hbig' : (2048 : Int) < (x : Int) := by omega
      have HF := Lib.hid (show Frm.head l = (⟨[], 0, 0⟩, 5) by
        unfold Frm.head
        rw [if_neg (by rw [HLN.out]; simp), if_neg (by rw [HMG.out]; simp), if_pos (by rw [← HX.out]; exact hbig)])
      go_wp2_with fail
      refine bodyPost_ret (results_cell_tmp_row rfl _ _ w.heap.size 170 #[.string ⟨#[]⟩, .int .i64 0, .int .u32 0] (0, 0) _ rfl (hset _ _ _).out Tryd.underlying170 rfl info_rhead (.int .i64 5) rfl) rfl ⟨?_, ?_⟩
      · rw [HF.out]; rfl
      · exact (hlow _ _ _).out
    · have hbig' : ¬ (2048 : Int) < (x : Int) := by omega
      have HF := Lib.hid (show Frm.head l = (⟨Frm.refName d, x, y⟩, 0) by
        unfold Frm.head
        rw [if_neg (by rw [HLN.out]; simp), if_neg (by rw [HMG.out]; simp), if_neg (by rw [← HX.out]; exact hbig), Frm.name_ref d (by rw [HL12.out]; omega), HX.out, HY.out, HD.out])
      clear G16 G20
      go_wp2_with fail
      go_loop [8] (fun i => ∃ j : Nat, j ≤ (Frm.cut0 d).length ∧ i = .int .i64 (4 + (j : Int))) (fun i => 16 - (intOf i).toNat)
      case atStart => exact ⟨0, Nat.zero_le _, rfl⟩
      case round =>
        obtain ⟨j, hj, rfl⟩ := hrel
        have hj12 : j ≤ 12 := by have h1 := cut_le d; have := HL12.out; omega
        by_cases hlt : j < 12
        · have hlt' : (4 : Int) + (j : Int) < 16 := by omega
          obtain ⟨q2, off2, hA2, _, hcj⟩ := HA4.out.cell (i := j) (by rw [HL12.out]; exact hlt)
          cases hA2
          rw [Nat.add_assoc] at hcj
          obtain ⟨hc0, hc1⟩ := cut_at d j (by rw [HL12.out]; exact hlt) hj
          by_cases hz : d[j]'(by rw [HL12.out]; exact hlt) = 0
          · have hjc : j = (Frm.cut0 d).length := (hc0 hz).symm
            rw [hz] at hcj
            clear hc0 hc1 hz
            have hd12 := HL12.out
            have htl : (d.take j).length = j := by rw [List.length_take]; omega
            have hbt := BytesAt.take HA4.out j
            have hcb := run_convert_bytes_back (P := Tryd.prog) w4 22 9 5 ⟨q, off + 4, none⟩ (c - 4) (d.take j) Tryd.underlying22 Tryd.underlying5 Tryd.underlying9 (fun t ht => by
              obtain ⟨q2, off2, hA2, _, hc2⟩ := hbt.cell ht
              cases hA2
              have e : (⟨q, off + 4, none⟩ : Addr).add t = ⟨q, off + 4 + t, none⟩ := by unfold Addr.add; split <;> simp_all
              rw [e]; exact hc2)
            rw [htl, hjc, cut_take, ← hjc] at hcb
            have hj4 : (4 : Int) + (j : Int) ≤ (c : Int) := by omega
            have hjm : (4 : Int) ≤ 4 + (j : Int) := by omega
            have HJC := Lib.hid hjc
            have HD12 := Lib.hid hd12
            clear htl hbt hjc hd12
            obtain ⟨ct, hct⟩ : ∃ ct, ct = Frm.cut0 d := ⟨_, rfl⟩
            rw [← hct] at hcb
            have HCT := Lib.hid hct
            clear hct
            go_wp2_with fail
            go_loop [9, 10] (fun cmd i => ∃ m : Nat, j ≤ m ∧ m ≤ 12 ∧ i = .int .i64 (4 + (m : Int)) ∧ ∃ cs : List UInt8, cmd = .string ⟨cs.toArray⟩ ∧ Hid (cs = if ((d.drop j).take (m - j)).all (· == 0) then ct else [])) (fun cmd i => 16 - (intOf i).toNat)
            case atStart => exact ⟨j, Nat.le_refl _, by omega, rfl, ct, rfl, Lib.hid (by rw [Nat.sub_self]; simp)⟩
            case round =>
              clear hcb
              obtain ⟨m, hjm2, hm12, rfl, cs, rfl, hcs⟩ := hrel
              by_cases hlt : m < 12
              · have hlt' : (4 : Int) + (m : Int) < 16 := by omega
                obtain ⟨q2, off2, hA2, _, hcm⟩ := HA4.out.cell (i := m) (by rw [HD12.out]; exact hlt)
                cases hA2
                rw [Nat.add_assoc] at hcm
                have HNX := Lib.hid (all_zero_next d j m hjm2 (by rw [HD12.out]; exact hlt))
                by_cases hz : d[m]'(by rw [HD12.out]; exact hlt) = 0
                · rw [hz] at hcm
                  rw [hz] at HNX
                  go_wp2_with fail
                  go_round
                  case rel => exact ⟨m + 1, by omega, by omega, by go_num, cs, rfl, Lib.hid (by rw [HNX.out, hcs.out]; simp)⟩
                  case measure => simp [intOf]; omega
                · have hnz : (((d[m]'(by rw [HD12.out]; exact hlt)).toNat : Int) != 0) = true := by
                    rw [bne_iff_ne]; intro e; apply hz; apply UInt8.toNat_inj.1; show _ = 0; omega
                  have hbz : ((d[m]'(by rw [HD12.out]; exact hlt)) == 0) = false := by rw [beq_eq_false_iff_ne]; exact hz
                  rw [hbz] at HNX
                  clear hbz hz
                  generalize d[m]'(by rw [HD12.out]; exact hlt) = z at *
                  go_wp2_with fail
                  go_round
                  case rel => exact ⟨m + 1, by omega, by omega, by go_num, [], rfl, Lib.hid (by rw [HNX.out]; simp)⟩
                  case measure => simp [intOf]; omega
              · obtain rfl : m = 12 := by omega
                have hfin : Frm.refName d = if Frm.named cs then cs else [] := by
                  refine refName_eq d cs ?_
                  rw [hcs.out, HCT.out, ← HJC.out, List.take_of_length_le (by rw [List.length_drop, HD12.out]; omega)]
                have hcl : cs.length ≤ 12 := by
                  have h1 := cut_le d
                  have := HD12.out
                  rw [hcs.out]; split
                  · rw [HCT.out]; omega
                  · simp
                have HFN := Lib.hid hfin
                have HNM := Lib.hid (named_ref ⟨cs.toArray⟩ w4 (by show cs.toArray.size ≤ _; rw [List.size_toArray]; omega))
                rw [show (⟨cs.toArray⟩ : ByteArray).data.toList = cs from rfl] at HNM
                clear hcs hfin
                go_wp2_with fail
                refine HNM.out.mono ?_
                rintro e w5 ⟨rfl, rfl⟩
                cases hnm : Frm.named cs with
                | true =>
                  rw [hnm] at HFN
                  clear hnm
                  go_wp2_with fail
                  refine bodyPost_ret (results_cell_tmp_row rfl _ _ w.heap.size 170 #[.string ⟨cs.toArray⟩, .int .i64 (x : Int), .int .u32 (y : Int)] (0, 0) _ rfl (hset _ _ _).out Tryd.underlying170 rfl info_rhead (.int .i64 0) rfl) rfl ⟨?_, ?_⟩
                  · rw [HF.out, HFN.out]; rfl
                  · exact (hlow _ _ _).out
                | false =>
                  rw [hnm] at HFN
                  clear hnm
                  go_wp2_with fail
                  refine bodyPost_ret (results_cell_tmp_row rfl _ _ w.heap.size 170 #[.string ⟨#[]⟩, .int .i64 (x : Int), .int .u32 (y : Int)] (0, 0) _ rfl (hset _ _ _).out Tryd.underlying170 rfl info_rhead (.int .i64 0) rfl) rfl ⟨?_, ?_⟩
                  · rw [HF.out, HFN.out]; rfl
                  · exact (hlow _ _ _).out
          · have hnz : (((d[j]'(by rw [HL12.out]; exact hlt)).toNat : Int) != 0) = true := by
              rw [bne_iff_ne]; intro e; apply hz; apply UInt8.toNat_inj.1; show _ = 0; omega
            have hj1 := hc1 hz
            clear hc0 hc1 hz
            generalize d[j]'(by rw [HL12.out]; exact hlt) = z at *
            go_wp2_with fail
            go_round
            case rel => exact ⟨j + 1, hj1, by go_num⟩
            case measure => simp [intOf]; omega
        · have hj12' : j = 12 := by omega
          have hlt' : ¬ (4 : Int) + (j : Int) < 16 := by omega
          have hjc : j = (Frm.cut0 d).length := by have h1 := cut_le d; have := HL12.out; omega
          clear hj12'
          have hd12 := HL12.out
          have htl : (d.take j).length = j := by rw [List.length_take]; omega
          have hbt := BytesAt.take HA4.out j
          have hcb := run_convert_bytes_back (P := Tryd.prog) w4 22 9 5 ⟨q, off + 4, none⟩ (c - 4) (d.take j) Tryd.underlying22 Tryd.underlying5 Tryd.underlying9 (fun t ht => by
            obtain ⟨q2, off2, hA2, _, hc2⟩ := hbt.cell ht
            cases hA2
            have e : (⟨q, off + 4, none⟩ : Addr).add t = ⟨q, off + 4 + t, none⟩ := by unfold Addr.add; split <;> simp_all
            rw [e]; exact hc2)
          rw [htl, hjc, cut_take, ← hjc] at hcb
          have hj4 : (4 : Int) + (j : Int) ≤ (c : Int) := by omega
          have hjm : (4 : Int) ≤ 4 + (j : Int) := by omega
          have HJC := Lib.hid hjc
          have HD12 := Lib.hid hd12
          clear htl hbt hjc hd12
          obtain ⟨ct, hct⟩ : ∃ ct, ct = Frm.cut0 d := ⟨_, rfl⟩
          rw [← hct] at hcb
          have HCT := Lib.hid hct
          clear hct
          go_wp2_with fail
          go_loop [9, 10] (fun cmd i => ∃ m : Nat, j ≤ m ∧ m ≤ 12 ∧ i = .int .i64 (4 + (m : Int)) ∧ ∃ cs : List UInt8, cmd = .string ⟨cs.toArray⟩ ∧ Hid (cs = if ((d.drop j).take (m - j)).all (· == 0) then ct else [])) (fun cmd i => 16 - (intOf i).toNat)
          case atStart => exact ⟨j, Nat.le_refl _, by omega, rfl, ct, rfl, Lib.hid (by rw [Nat.sub_self]; simp)⟩
          case round =>
            clear hcb
            obtain ⟨m, hjm2, hm12, rfl, cs, rfl, hcs⟩ := hrel
            by_cases hlt : m < 12
            · have hlt' : (4 : Int) + (m : Int) < 16 := by omega
              obtain ⟨q2, off2, hA2, _, hcm⟩ := HA4.out.cell (i := m) (by rw [HD12.out]; exact hlt)
              cases hA2
              rw [Nat.add_assoc] at hcm
              have HNX := Lib.hid (all_zero_next d j m hjm2 (by rw [HD12.out]; exact hlt))
              by_cases hz : d[m]'(by rw [HD12.out]; exact hlt) = 0
              · rw [hz] at hcm
                rw [hz] at HNX
                go_wp2_with fail
                go_round
                case rel => exact ⟨m + 1, by omega, by omega, by go_num, cs, rfl, Lib.hid (by rw [HNX.out, hcs.out]; simp)⟩
                case measure => simp [intOf]; omega
              · have hnz : (((d[m]'(by rw [HD12.out]; exact hlt)).toNat : Int) != 0) = true := by
                  rw [bne_iff_ne]; intro e; apply hz; apply UInt8.toNat_inj.1; show _ = 0; omega
                have hbz : ((d[m]'(by rw [HD12.out]; exact hlt)) == 0) = false := by rw [beq_eq_false_iff_ne]; exact hz
                rw [hbz] at HNX
                clear hbz hz
                generalize d[m]'(by rw [HD12.out]; exact hlt) = z at *
                go_wp2_with fail
                go_round
                case rel => exact ⟨m + 1, by omega, by omega, by go_num, [], rfl, Lib.hid (by rw [HNX.out]; simp)⟩
                case measure => simp [intOf]; omega
            · obtain rfl : m = 12 := by omega
              have hfin : Frm.refName d = if Frm.named cs then cs else [] := by
                refine refName_eq d cs ?_
                rw [hcs.out, HCT.out, ← HJC.out, List.take_of_length_le (by rw [List.length_drop, HD12.out]; omega)]
              have hcl : cs.length ≤ 12 := by
                have h1 := cut_le d
                have := HD12.out
                rw [hcs.out]; split
                · rw [HCT.out]; omega
                · simp
              have HFN := Lib.hid hfin
              have HNM := Lib.hid (named_ref ⟨cs.toArray⟩ w4 (by show cs.toArray.size ≤ _; rw [List.size_toArray]; omega))
              rw [show (⟨cs.toArray⟩ : ByteArray).data.toList = cs from rfl] at HNM
              clear hcs hfin
              go_wp2_with fail
              refine HNM.out.mono ?_
              rintro e w5 ⟨rfl, rfl⟩
              cases hnm : Frm.named cs with
              | true =>
                rw [hnm] at HFN
                clear hnm
                go_wp2_with fail
                refine bodyPost_ret (results_cell_tmp_row rfl _ _ w.heap.size 170 #[.string ⟨cs.toArray⟩, .int .i64 (x : Int), .int .u32 (y : Int)] (0, 0) _ rfl (hset _ _ _).out Tryd.underlying170 rfl info_rhead (.int .i64 0) rfl) rfl ⟨?_, ?_⟩
                · rw [HF.out, HFN.out]; rfl
                · exact (hlow _ _ _).out
              | false =>
                rw [hnm] at HFN
                clear hnm
                go_wp2_with fail
                refine bodyPost_ret (results_cell_tmp_row rfl _ _ w.heap.size 170 #[.string ⟨#[]⟩, .int .i64 (x : Int), .int .u32 (y : Int)] (0, 0) _ rfl (hset _ _ _).out Tryd.underlying170 rfl info_rhead (.int .i64 0) rfl) rfl ⟨?_, ?_⟩
                · rw [HF.out, HFN.out]; rfl
                · exact (hlow _ _ _).out
  · rw [show decide (l.take 4 = Frm.magic) = false from decide_eq_false hmag]
    have HF := Lib.hid (show Frm.head l = (⟨[], 0, 0⟩, 6) by
      unfold Frm.head
      rw [if_neg (by rw [HLN.out]; simp), if_pos hmag])
    go_wp2_with fail
    refine bodyPost_ret (results_cell_tmp_row rfl _ _ w.heap.size 170 #[.string ⟨#[]⟩, .int .i64 0, .int .u32 0] (0, 0) _ rfl (hset _ _ _).out Tryd.underlying170 rfl info_rhead (.int .i64 6) rfl) rfl ⟨?_, ?_⟩
    · rw [HF.out]; rfl
    · exact (hlow _ _ _).out
end Go.Proofs.YtpacgblddeoheaaDoor
/- The document's frames: what is read of bytes. -/
namespace Go.Proofs.YtpacgblddeoheaaDoor
open Go.RowKit Go.Deep
set_option linter.unusedVariables false
set_option linter.unusedSimpArgs false
set_option maxRecDepth 100000
attribute [local go_sem ↓] Go.wp_at_zero Go.wp_at_succ
theorem rg_short (A : Option Addr) (n c : Nat) (l : List UInt8) (w : World) (hl : l.length = n) (h : n < 24) :
    Calls Tryd.prog 55 #[.slice A n c] w fun e w' => GetOut w w' (Frm.get l) e := by
  have HF := Lib.hid (show Frm.get l = ([], [], 0, 4) by unfold Frm.get; rw [if_pos (by omega)])
  have h' : (n : Int) < 24 := by omega
  clear hl h
  go_enter Tryd.func55, Tryd.ntmps55
  go_wp2_with fail
  refine bodyPost_ret (results_tmp4 rfl _ _ _) rfl ?_
  exact GetOut.nil HF.out (Below.refl _ _)
set_option maxHeartbeats 1000000 in
theorem rg_head (q off c B n : Nat) (l : List UInt8) (w : World) (hl : l.length = n) (h24 : 24 ≤ n) (hc : n ≤ c) (hm : c ≤ maxLen) (hn : n ≤ 140737488351232) (h : BytesAt w B (some ⟨q, off, none⟩) l) (hB : B ≤ w.heap.size) :
    Calls Tryd.prog 55 #[.slice (some ⟨q, off, none⟩) n c] w fun e w' => GetOut w w' (Frm.get l) e := by
  obtain ⟨hd, hhd⟩ : ∃ hd, hd = Frm.head (l.take 24) := ⟨_, rfl⟩
  have HHD := Lib.hid hhd
  have l24 : (l.take 24).length = 24 := by rw [List.length_take]; omega
  have HC := Lib.hid (rhead_yes q off c B (l.take 24) w l24 (BytesAt.take h 24) hB (by omega))
  rw [← hhd] at HC
  unfold headV at HC
  obtain ⟨o24, ho24⟩ : ∃ o24, o24 = if c = 24 then off else off + 24 := ⟨_, rfl⟩
  have hat24 : BytesAt w B (some ⟨q, o24, none⟩) (l.drop 24) := by
    by_cases e : c = 24
    · have : l.drop 24 = [] := List.drop_of_length_le (by omega)
      rw [this]; exact fun i hi => by simp at hi
    · rw [ho24, if_neg e]; exact h.drop 24
  have HAT := Lib.hid hat24
  unfold maxLen at hm
  have HLN := Lib.hid hl
  have HG := Lib.hid (show Frm.get l = _ by unfold Frm.get; rw [if_neg (by omega), ← hhd])
  have h24' : ¬ (n : Int) < 24 := by omega
  have hif : (if c = 24 then some (⟨q, off, none⟩ : Addr) else some ⟨q, off + 24, none⟩) = some ⟨q, o24, none⟩ := by rw [ho24]; split <;> rfl
  obtain ⟨i0, hi, hz0, hz1', hz2⟩ := info_parts byte_info
  have Hi := Lib.hid hi
  have Hz := Lib.hid hz0
  have Hz1 := Lib.hid hz1'
  have Hz2 := Lib.hid hz2
  clear hi hz0 hz1' hz2
  clear hhd l24 hat24 hl h ho24
  obtain ⟨⟨cmd, len, sum⟩, err⟩ := hd
  simp only at HC HG
  go_enter Tryd.func55, Tryd.ntmps55
  go_wp2_with fail
  refine HC.out.mono ?_
  rintro e w1 ⟨rfl, hb1⟩
  have HB1 := Lib.hid hb1
  have hz1 := hb1.size
  clear hb1 HC
  by_cases he : err = 0
  · subst he
    obtain ⟨hs, hhs⟩ : ∃ hs : ByteArray, hs = ⟨cmd.toArray⟩ := ⟨_, rfl⟩
    have hsd : hs.data.toList = cmd := by rw [hhs]
    have hse := str_empty hs
    rw [hsd] at hse
    rw [← hhs]
    have HHS := Lib.hid hhs
    clear hhs hsd
    have hnc : n ≤ 140737488351232 := hn
    by_cases hsh : n - 24 < len
    · have hsh' : (n : Int) - 24 < (len : Int) := by omega
      have HF := Lib.hid (show Frm.get l = ([], [], 0, 4) by rw [HG.out]; simp only [ne_eq, not_true_eq_false, if_false]; rw [if_pos (by rw [HLN.out]; exact hsh)])
      clear hsh hse
      go_wp2_with fail
      refine bodyPost_ret (results_tmp4 rfl _ _ _) rfl ?_
      exact GetOut.nil HF.out (HB1.out.alloc hz1 _)
    · have hsh' : ¬ (n : Int) - 24 < (len : Int) := by omega
      have hlen : len ≤ n - 24 := by omega
      have hlen2 : (len : Int) ≤ 140737488351232 := by omega
      have hlc : (24 : Int) + (len : Int) ≤ (c : Int) := by omega
      obtain ⟨bd, hbd⟩ : ∃ bd, bd = (l.drop 24).take len := ⟨_, rfl⟩
      have hbl : bd.length = len := by rw [hbd, List.length_take, List.length_drop, HLN.out]; omega
      have hbat : BytesAt w B (some ⟨q, o24, none⟩) bd := by rw [hbd]; exact BytesAt.take HAT.out len
      have HG2 := Lib.hid (show Frm.get l = if cmd = [] then ([], [], 24 + len, 8) else if (Sha.check bd).toNat ≠ sum then ([], [], 24 + len, 7) else (cmd, bd, 24 + len, 0) by
        rw [HG.out]; simp only [ne_eq, not_true_eq_false, if_false]; rw [if_neg (by rw [HLN.out]; exact hsh), ← hbd])
      have HBAT := Lib.hid hbat
      have HBL := Lib.hid hbl
      obtain ⟨w2, hw2⟩ : ∃ w2, w2 = w1.alloc (.cells #[.string hs, .int .i64 (len : Int), .int .u32 (sum : Int)] 170) := ⟨_, rfl⟩
      have k2 : Bk w2 w1.heap.size 170 #[.string hs, .int .i64 (len : Int), .int .u32 (sum : Int)] := by rw [hw2]; exact Bk.new _ _ _
      have b2 : Below w.heap.size w w2 := by rw [hw2]; exact HB1.out.alloc hz1 _
      have HK2 := Lib.hid k2
      have HB2 := Lib.hid b2
      have HW2 := Lib.hid hw2
      clear hsh hbd hbat hbl k2 b2 hw2
      have hl24 : 24 + len - 24 = len := by omega
      go_upto_region 6 with (fail)
      rw [← HW2.out]
      have a1 : w2.cell? ⟨w1.heap.size, 1, none⟩ = some (.int .i64 (len : Int)) := (HK2.out.cell 1).trans rfl
      go_upto_region 9 with (fail)
      have hown : OwnB (w2.alloc (.cells #[] 5)) w2.heap.size (.slice (some ⟨w2.heap.size, 0, none⟩) 0 0) [] := Bk.own (bs := []) (Bk.new _ _ _) (Nat.le_refl _) (by simp [maxLen])
      have HO := Lib.hid hown
      have HS := Lib.hid (BytesAt.src (HBAT.out.below (((HB2.out.mono hB).trans ((Joins.below_alloc1 w2 (.cells #[] 5)).mono (by have := HB2.out.size; omega))))))
      clear hown a1
      go_upto_region 10 with (at_builtin; refine wpList_app _ rfl (.tmp 31) (.tmp 34) _ rfl w2.heap.size 5 i0 _ 1 1 Tryd.underlying22 Hi.out Hz.out Hz1.out Hz2.out rfl (by decide) (.slice (some ⟨w2.heap.size, 0, none⟩) 0 0) 0 [] rfl HO.out (some ⟨q, o24, none⟩) (24 + len - 24) (c - 24) (bd.map byteV) rfl (by rw [List.length_map, HBL.out, Nat.mul_one]; omega) HS.out (oneCell_bytes _) (by unfold maxLen; omega) (by omega) (by simp) ?_; intro v3 w3 hrow3 hg3 _)
      rw [hl24] at hrow3
      have hown3 : OwnB w3 w2.heap.size v3 bd := by
        unfold OwnB
        rw [HBL.out]
        simpa using hrow3
      have hz2a : (w2.alloc (.cells #[] 5)).heap.size = w2.heap.size + 1 := by rw [World.size_alloc]
      have b23 : Below w2.heap.size w2 w3 := (Joins.below_alloc1 _ _).trans (own_low hg3 HO.out (Nat.le_refl _) (by omega))
      have HB3 := Lib.hid (HB2.out.trans (b23.mono HB2.out.size))
      have HLT2 := Lib.hid HK2.out.lt
      have hk3 := HK2.out.below b23 HLT2.out
      have c0 : w3.cell? ⟨w1.heap.size, 0, none⟩ = some (.string hs) := (hk3.cell 0).trans rfl
      have c2 : w3.cell? ⟨w1.heap.size, 2, none⟩ = some (.int .u32 (sum : Int)) := (hk3.cell 2).trans rfl
      have HK3 := Lib.hid hk3
      have HOW := Lib.hid (own_mono hown3 HB2.out.size)
      clear hrow3 hg3 b23 hk3 hown3 hz2a HO HS
      by_cases hcm : cmd = []
      · have hse' : hs.toList.isEmpty = true := by rw [hse]; simpa using hcm
        have HF := Lib.hid (show Frm.get l = ([], [], 24 + len, 8) by rw [HG2.out, if_pos hcm])
        clear hse hcm
        go_wp2_with fail
        refine bodyPost_ret (results_tmp4 rfl _ _ _) rfl ?_
        exact GetOut.nil HF.out HB3.out
      · have hse' : hs.toList.isEmpty = false := by rw [hse]; simpa using hcm
        have HG3 := Lib.hid (show Frm.get l = if (Sha.check bd).toNat ≠ sum then ([], [], 24 + len, 7) else (cmd, bd, 24 + len, 0) by rw [HG2.out, if_neg hcm])
        obtain ⟨A3, c3, rfl, hc3, hm3, hat3, _⟩ := OwnB.at_ HOW.out
        have HAT3 := Lib.hid hat3
        rw [HBL.out] at hc3
        have hck := fun i => check_ref A3 bd.length c3 w3.heap.size bd (w3.drewN i) rfl (by rw [HBL.out]; exact hc3) hm3 (by rw [HBL.out]; omega) (HAT3.out.below (below_drewN (Below.refl _ _) i)) (Nat.le_refl _)
        obtain ⟨x, hx⟩ : ∃ x, x = (Sha.check bd).toNat := ⟨_, rfl⟩
        rw [← hx] at hck HG3
        have HCK := Lib.hid hck
        have HX := Lib.hid hx
        have HLT3 := Lib.hid HK3.out.lt
        clear hse hcm hat3 hck hx
        go_upto_region 12 with (fail)
        go_region_held3 (fun w' => w'.cell? ⟨w1.heap.size, 2, none⟩ = some (.int .u32 (sum : Int))) (first | go_keep | exact (hb4.cell (p := ⟨w1.heap.size, 2, none⟩) HLT3.out).trans c2) ((go_at_call 80; refine (HCK.out _).mono ?_; rintro e w' ⟨rfl, hb4⟩))
        have HB4 := Lib.hid ((below_drewN HB3.out _).trans (hb4.mono HB3.out.size))
        have HK4 := Lib.hid ((HK3.out.drewN _).below hb4 HLT3.out)
        have HOW4 := Lib.hid (own_below HOW.out ((below_drewN (Below.refl _ w3) _).trans hb4))
        obtain ⟨w4, hw4⟩ : ∃ w4, w4 = w' := ⟨_, rfl⟩
        rw [← hw4] at HB4 HK4 HOW4 ⊢
        have c0 : w4.cell? ⟨w1.heap.size, 0, none⟩ = some (.string hs) := (HK4.out.cell 0).trans rfl
        clear hb4 hw4 c2
        by_cases hxs : x = sum
        · have hxs' : ((x : Int) != (sum : Int)) = false := by rw [bne_eq_false_iff_eq]; omega
          have HF := Lib.hid (show Frm.get l = (cmd, bd, 24 + len, 0) by rw [HG3.out, if_neg (by simpa using hxs)])
          clear hxs
          go_wp2_with fail
          refine bodyPost_ret (results_tmp4 rfl _ _ _) rfl ?_
          refine ⟨.slice A3 bd.length c3, ?_, ?_, HB4.out⟩
          · rw [HF.out]; show Ending.returned (.tuple #[.string hs, .slice A3 bd.length c3, .int .i64 (24 + (len : Int)), .int .i64 0]) = _; rw [HHS.out]; simp
          · rw [HF.out]; exact HOW4.out
        · have hxs' : ((x : Int) != (sum : Int)) = true := by rw [bne_iff_ne]; omega
          have HF := Lib.hid (show Frm.get l = ([], [], 24 + len, 7) by rw [HG3.out, if_pos (by simpa using hxs)])
          clear hxs
          go_wp2_with fail
          refine bodyPost_ret (results_tmp4 rfl _ _ _) rfl ?_
          exact GetOut.nil HF.out HB4.out
  · have he' : (err != 0) = true := by rw [bne_iff_ne]; exact he
    have HF := Lib.hid (show Frm.get l = ([], [], 0, err) by rw [HG.out]; simp [he])
    clear he
    go_wp2_with fail
    refine bodyPost_ret (results_tmp4 rfl _ _ _) rfl ?_
    exact GetOut.nil HF.out (HB1.out.alloc hz1 _)
theorem rg_any (A : Option Addr) (c B n : Nat) (l : List UInt8) (w : World) (hl : l.length = n) (hc : n ≤ c) (hm : c ≤ maxLen) (hn : n ≤ 140737488351232) (h : BytesAt w B A l) (hB : B ≤ w.heap.size) :
    Calls Tryd.prog 55 #[.slice A n c] w fun e w' => GetOut w w' (Frm.get l) e := by
  by_cases h24 : n < 24
  · exact rg_short A n c l w hl h24
  · obtain ⟨q, off, rfl, _, _⟩ := h.cell (i := 0) (by omega)
    exact rg_head q off c B n l w hl (by omega) hc hm hn h hB
end Go.Proofs.YtpacgblddeoheaaDoor
