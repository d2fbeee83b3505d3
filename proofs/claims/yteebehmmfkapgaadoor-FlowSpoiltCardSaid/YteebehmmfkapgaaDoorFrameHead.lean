/- Package frame: a head is read. -/
import Derived.Test.YteebehmmfkapgaaDoorFrameName
import Derived.Stop.BytesEq
namespace Go.Proofs.YteebehmmfkapgaaDoor
open Go.RowKit Go.Deep
set_option linter.unusedVariables false
set_option linter.unusedSimpArgs false
set_option maxRecDepth 100000
attribute [local go_sem ↓] Go.wp_at_zero Go.wp_at_succ

def headV (h : Frm.Head × Int) : Value := .tuple #[.agg #[.string ⟨h.1.cmd.toArray⟩, .int .i64 (h.1.len : Int), .int .u32 (h.1.sum : Int)], .int .i64 h.2]
theorem info_head : (Tryd.prog.info? 56).map (·.size) = some 3 := by kernel_rfl
theorem head_short (A : Option Addr) (n c : Nat) (l : List UInt8) (w : World) (hl : l.length = n) (h : n ≠ 24) :
    Calls Tryd.prog 21 #[.slice A n c] w fun e w' => e = .returned (headV (Frm.head l)) ∧ Below w.heap.size w w' := by
  have HF := Lib.hid (show Frm.head l = (⟨[], 0, 0⟩, 2) by unfold Frm.head; rw [if_pos (by rw [hl]; exact h)])
  have h' : ((n : Int) != 24) = true := by rw [bne_iff_ne]; omega
  clear hl h
  go_enter Tryd.func21, Tryd.ntmps21
  go_wp2_with fail
  refine bodyPost_ret (results_cell_tmp_row rfl _ _ w.heap.size 56 #[.string ⟨#[]⟩, .int .i64 0, .int .u32 0] (0, 0) _ rfl (Bk.new _ _ _) Tryd.underlying56 rfl info_head (.int .i64 2) rfl) rfl ⟨?_, ?_⟩
  · rw [HF.out]; rfl
  · exact Joins.below_alloc1 _ _
set_option maxHeartbeats 400000 in
theorem head_yes (q off c B : Nat) (l : List UInt8) (w : World) (hl : l.length = 24) (h : BytesAt w B (some ⟨q, off, none⟩) l) (hB : B ≤ w.heap.size) (hc : 24 ≤ c) :
    Calls Tryd.prog 21 #[.slice (some ⟨q, off, none⟩) 24 c] w fun e w' => e = .returned (headV (Frm.head l)) ∧ Below w.heap.size w w' := by
  have HH := Lib.hid h
  have HLN := Lib.hid hl
  clear h hl
  go_enter Tryd.func21, Tryd.ntmps21
  go_upto_region 4 with (fail)
  obtain ⟨w2, hw2⟩ : ∃ w2, w2 = (w.alloc (.cells #[.string ⟨#[]⟩, .int .i64 0, .int .u32 0] 56)).alloc (.cells #[.int .u8 0, .int .u8 0, .int .u8 0, .int .u8 0] 69) := ⟨_, rfl⟩
  rw [← hw2]
  have r2 : Bk w2 w.heap.size 56 #[.string ⟨#[]⟩, .int .i64 0, .int .u32 0] := by rw [hw2]; exact (Bk.new w _ _).alloc _
  have m2 : Bk w2 (w.heap.size + 1) 69 (bytesArr (List.replicate 4 0)) := by rw [hw2]; exact Bk.new_at _ _ _ (by simp)
  have b2 : Below w.heap.size w w2 := by rw [hw2]; exact Joins.below_alloc2 _ _ _
  obtain ⟨w3, hcp, m3, hk3⟩ := copy_bytes_at 69 w2 (w.heap.size + 1) 0 4 24 B 4 (some ⟨q, off, none⟩) _ l m2 (HH.out.below (b2.mono hB)) HLN.out rfl (by simp)
  have e3 : (List.replicate 4 (0 : UInt8)).take 0 ++ l.take 4 ++ (List.replicate 4 0).drop (0 + 4) = l.take 4 := by simp
  rw [e3] at m3
  have HB3 := Lib.hid (b2.trans (hk3.below_from (B := w.heap.size) (by omega) b2.size))
  have HR3 := Lib.hid (r2.kp hk3 (by omega))
  have hz3 : w.heap.size < w3.heap.size := HR3.out.lt
  obtain ⟨x0, x1, x2, x3, ht⟩ : ∃ x0 x1 x2 x3, l.take 4 = [x0, x1, x2, x3] := by
    have hl4 : (l.take 4).length = 4 := by rw [List.length_take, HLN.out]; rfl
    match h : l.take 4, hl4 with
    | [x0, x1, x2, x3], _ => exact ⟨x0, x1, x2, x3, rfl⟩
  rw [ht] at m3
  have HT := Lib.hid ht
  have HLT3 := Lib.hid m3.lt
  have a0 := m3.cell 0
  have a1 := m3.cell 1
  have a2 := m3.cell 2
  have a3 := m3.cell 3
  simp only [bytesArr, byteV, List.map_cons, List.map_nil, List.getElem?_toArray, List.getElem?_cons_zero, List.getElem?_cons_succ] at a0 a1 a2 a3
  obtain ⟨b, hb⟩ : ∃ b, b = ([x0, x1, x2, x3] == Frm.magic) := ⟨_, rfl⟩
  have hq : ∀ W, (Op.equalIn 10000 69 (.agg #[.int .u8 (x0.toNat : Int), .int .u8 (x1.toNat : Int), .int .u8 (x2.toNat : Int), .int .u8 (x3.toNat : Int)]) (.agg #[.int .u8 196, .int .u8 240, .int .u8 122, .int .u8 30])).run Tryd.prog W = .ok b W := fun W => by
    rw [hb]
    exact run_equalIn_bytes W 9998 69 5 4 Tryd.underlying69 Tryd.underlying5 (fun W => by kernel_rfl) [x0, x1, x2, x3] Frm.magic rfl rfl
  have HBB := Lib.hid hb
  clear hb
  clear hw2 r2 m2 b2 hk3 e3 m3 ht
  go_wp2_with fail
  clear hcp
  go_region_held3 (fun w' => w'.cell? ⟨w.heap.size + 1, 0, none⟩ = some (.int .u8 (x0.toNat : Int)) ∧ w'.cell? ⟨w.heap.size + 1, 1, none⟩ = some (.int .u8 (x1.toNat : Int)) ∧ w'.cell? ⟨w.heap.size + 1, 2, none⟩ = some (.int .u8 (x2.toNat : Int)) ∧ w'.cell? ⟨w.heap.size + 1, 3, none⟩ = some (.int .u8 (x3.toNat : Int)))
    (first | go_keep | exact ⟨(hbm.cell (p := ⟨w.heap.size + 1, 0, none⟩) HLT3.out).trans a0, (hbm.cell (p := ⟨w.heap.size + 1, 1, none⟩) HLT3.out).trans a1, (hbm.cell (p := ⟨w.heap.size + 1, 2, none⟩) HLT3.out).trans a2, (hbm.cell (p := ⟨w.heap.size + 1, 3, none⟩) HLT3.out).trans a3⟩) ((go_at_call 26; refine (magic_any _).mono ?_; rintro e w' ⟨rfl, hbm⟩))
  have HB4 := Lib.hid (HB3.out.drew.trans (hbm.mono (Nat.le_trans HB3.out.size (by simp))))
  have HR4 := Lib.hid (HR3.out.drew.below hbm (by simpa using hz3))
  obtain ⟨w4, hw4⟩ : ∃ w4, w4 = w' := ⟨_, rfl⟩
  rw [← hw4] at HB4 HR4 ⊢
  have r0 := HR4.out.cell 0
  have r1 := HR4.out.cell 1
  have r2 := HR4.out.cell 2
  have rf := HR4.out.frozen
  simp only [List.getElem?_toArray, List.getElem?_cons_zero, List.getElem?_cons_succ] at r0 r1 r2
  have hset : ∀ (y0 y1 y2 : Value), Hid (Bk (((w4.setCell ⟨w.heap.size, 0, none⟩ y0).setCell ⟨w.heap.size, 1, none⟩ y1).setCell ⟨w.heap.size, 2, none⟩ y2) w.heap.size 56 #[y0, y1, y2]) := fun y0 y1 y2 => Lib.hid (by
    have := ((HR4.out.set 0 y0).set 1 y1).set 2 y2
    simpa using this)
  have hlow : ∀ (y0 y1 y2 : Value), Hid (Below w.heap.size w (((w4.setCell ⟨w.heap.size, 0, none⟩ y0).setCell ⟨w.heap.size, 1, none⟩ y1).setCell ⟨w.heap.size, 2, none⟩ y2)) := fun y0 y1 y2 => Lib.hid (((HB4.out.setCell (Nat.le_refl _) _).setCell (Nat.le_refl _) _).setCell (Nat.le_refl _) _)
  clear hw4 hbm a0 a1 a2 a3
  cases b with
  | false =>
    have HF := Lib.hid (show Frm.head l = (⟨[], 0, 0⟩, 6) by
      unfold Frm.head
      rw [if_neg (by rw [HLN.out]; simp), if_pos (by rw [HT.out]; intro e; have := HBB.out; rw [e] at this; simp at this)])
    go_wp2_with fail
    refine bodyPost_ret (results_cell_tmp_row rfl _ _ w.heap.size 56 #[.string ⟨#[]⟩, .int .i64 0, .int .u32 0] (0, 0) _ rfl (hset _ _ _).out Tryd.underlying56 rfl info_head (.int .i64 6) rfl) rfl ⟨?_, ?_⟩
    · rw [HF.out]; rfl
    · exact (hlow _ _ _).out
  | true =>
    have hmag : l.take 4 = Frm.magic := by rw [HT.out]; simpa using HBB.out.symm
    have HAT := HH.out.below (HB4.out.mono hB)
    have hat16 := BytesAt.take (BytesAt.drop HAT 16) 4
    have hat20 := BytesAt.drop HAT 20
    have hat4 := BytesAt.take (BytesAt.drop HAT 4) 12
    have l16 : ((l.drop 16).take 4).length = 4 := by rw [List.length_take, List.length_drop, HLN.out]; rfl
    have l20 : (l.drop 20).length = 4 := by rw [List.length_drop, HLN.out]
    have l4 : ((l.drop 4).take 12).length = 12 := by rw [List.length_take, List.length_drop, HLN.out]; rfl
    have v16 := Oct.val_lt ((l.drop 16).take 4)
    have v20 := Oct.val_lt (l.drop 20)
    have G16 : ∀ cap, Hid _ := fun cap => Lib.hid (oget_yes (some ⟨q, off + 16, none⟩) cap B ((l.drop 16).take 4) (.inr (.inr (.inl l16))) w4 hat16)
    have G20 : ∀ cap, Hid _ := fun cap => Lib.hid (oget_yes (some ⟨q, off + 20, none⟩) cap B (l.drop 20) (.inr (.inr (.inl l20))) w4 hat20)
    rw [l16] at G16 v16
    rw [l20] at G20 v20
    obtain ⟨x, hx⟩ : ∃ x, x = Oct.val ((l.drop 16).take 4) := ⟨_, rfl⟩
    obtain ⟨y, hy⟩ : ∃ y, y = Oct.val (l.drop 20) := ⟨_, rfl⟩
    rw [← hx] at G16 v16
    rw [← hy] at G20 v20
    have GN : ∀ cap (h : 12 ≤ cap), Hid _ := fun cap h => Lib.hid (name_any q (off + 4) cap B ((l.drop 4).take 12) 12 w4 l4 (by omega) h hat4)
    obtain ⟨nm, hnm⟩ : ∃ nm, nm = Frm.name ((l.drop 4).take 12) := ⟨_, rfl⟩
    rw [← hnm] at GN
    have hx' : x < 4294967296 := by simpa using v16
    have hy' : y < 4294967296 := by simpa using v20
    have HX := Lib.hid hx
    have HY := Lib.hid hy
    have HNM := Lib.hid hnm
    have HMG := Lib.hid hmag
    have n16 : ¬ (c = 16) := by omega
    have n20 : ¬ (c = 20) := by omega
    have n4 : ¬ (c = 4) := by omega
    clear hmag HAT hat16 hat20 hat4 l16 l20 l4 v16 v20 hx hy hnm
    go_wp2_with fail
    refine (G16 _).out.mono ?_
    rintro e w5 ⟨rfl, rfl⟩
    go_wp2_with fail
    refine (G20 _).out.mono ?_
    rintro e w5 ⟨rfl, rfl⟩
    by_cases hbig : 2048 < x
    · have hbig' : (2048 : Int) < (x : Int) := by omega
      have HF := Lib.hid (show Frm.head l = (⟨[], 0, 0⟩, 5) by
        unfold Frm.head
        rw [if_neg (by rw [HLN.out]; simp), if_neg (by rw [HMG.out]; simp), if_pos (by rw [← HX.out]; exact hbig)])
      go_wp2_with fail
      refine bodyPost_ret (results_cell_tmp_row rfl _ _ w.heap.size 56 #[.string ⟨#[]⟩, .int .i64 0, .int .u32 0] (0, 0) _ rfl (hset _ _ _).out Tryd.underlying56 rfl info_head (.int .i64 5) rfl) rfl ⟨?_, ?_⟩
      · rw [HF.out]; rfl
      · exact (hlow _ _ _).out
    · have hbig' : ¬ (2048 : Int) < (x : Int) := by omega
      have HF := Lib.hid (show Frm.head l = (⟨nm, x, y⟩, 0) by
        unfold Frm.head
        rw [if_neg (by rw [HLN.out]; simp), if_neg (by rw [HMG.out]; simp), if_neg (by rw [← HX.out]; exact hbig), ← HX.out, ← HY.out, ← HNM.out])
      go_wp2_with fail
      refine (GN _ (by omega)).out.mono ?_
      rintro e w5 ⟨rfl, rfl⟩
      go_wp2_with fail
      refine bodyPost_ret (results_cell_tmp_row rfl _ _ w.heap.size 56 #[.string ⟨nm.toArray⟩, .int .i64 (x : Int), .int .u32 (y : Int)] (0, 0) _ rfl (hset _ _ _).out Tryd.underlying56 rfl info_head (.int .i64 0) rfl) rfl ⟨?_, ?_⟩
      · rw [HF.out]; rfl
      · exact (hlow _ _ _).out
end Go.Proofs.YteebehmmfkapgaaDoor
