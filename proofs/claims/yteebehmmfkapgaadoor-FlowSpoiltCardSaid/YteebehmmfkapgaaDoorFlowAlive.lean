/- The fixed trials of flow. -/
import Derived.Test.YteebehmmfkapgaaDoorRefFlow
import Derived.Test.YteebehmmfkapgaaDoorFlowSame
namespace Go.Proofs.YteebehmmfkapgaaDoor
open Go.RowKit Go.Deep
set_option linter.unusedVariables false
set_option linter.unusedSimpArgs false
set_option maxRecDepth 100000
attribute [local go_sem ↓] Go.wp_at_zero Go.wp_at_succ

theorem waits_s {w : World} {F base : Nat} {v : Value} {s : List UInt8 × Bool} (h : FlowS w F base v s) : Calls Tryd.prog 16 #[.pointer (some ⟨F, 0, none⟩)] w fun e w' => e = .returned (.int .i64 (s.1.length : Int)) ∧ Below w.heap.size w w' := by
  rcases h with ⟨a, b, c, hd, hv, hl, hk, _⟩ | ⟨a, b, hd, n, c, d, hl, hk, _⟩ | ⟨a, hd, hv, body, b, c, d, hl, hk, ho⟩
  · subst c
    refine (waits_any F 0 hd hv none 0 0 true w hk hl (by omega) (by omega)).mono fun e w' ⟨h1, h2⟩ => ⟨by rw [h1, b]; rfl, h2⟩
  · subst b
    refine (waits_any F n hd noHead none 0 0 false w hk hl (by omega) (by omega)).mono fun e w' ⟨h1, h2⟩ => ⟨by rw [h1, d, List.length_take, hl]; congr 4; omega, h2⟩
  · obtain ⟨A, cap, rfl, _⟩ := own_form ho
    have hlen : hv.len ≤ 2048 := by have := Flo.head_len (b := hd); rw [c] at this; exact this rfl
    refine (waits_any F 24 hd hv A body.length cap false w hk hl (by omega) (by omega)).mono fun e w' ⟨h1, h2⟩ => ⟨by rw [h1, b, List.length_append, hl], h2⟩
theorem dead_s {w : World} {F base : Nat} {v : Value} {s : List UInt8 × Bool} (h : FlowS w F base v s) : Calls Tryd.prog 17 #[.pointer (some ⟨F, 0, none⟩)] w fun e w' => e = .returned (.bool s.2) ∧ w' = w := by
  rcases h with ⟨a, b, c, hd, hv, hl, hk, _⟩ | ⟨a, b, hd, n, c, d, hl, hk, _⟩ | ⟨a, hd, hv, body, b, c, d, hl, hk, ho⟩
  · rw [a]; exact dead_any F 0 hd hv v true w hk hl
  · rw [a]; exact dead_any F n hd noHead v false w hk hl
  · rw [a]; exact dead_any F 24 hd hv v false w hk hl
def pingFrame : List UInt8 := Frm.put [112, 105, 110, 103] [1, 2]
theorem ping_len : pingFrame.length = 26 := by decide +kernel
theorem ping_run : Flo.run pingFrame = ([⟨[112, 105, 110, 103], [1, 2], 0⟩], [], false) := by
  have := Flo.run_put (cmd := [112, 105, 110, 103]) (body := [1, 2]) (by decide) (by decide) []
  rw [List.append_nil] at this
  rw [pingFrame, this, Flo.run_short (x := []) (by decide)]
theorem ping_one : Flo.feed ([], false) (pingFrame.take 10) = ([], pingFrame.take 10, false) := by
  show Flo.run ([] ++ pingFrame.take 10) = _
  rw [List.nil_append]
  exact Flo.run_short (by rw [List.length_take]; omega)
theorem ping_two : Flo.feed (pingFrame.take 10, false) (pingFrame.drop 10) = ([⟨[112, 105, 110, 103], [1, 2], 0⟩], [], false) := by
  show Flo.run (pingFrame.take 10 ++ pingFrame.drop 10) = _
  rw [List.take_append_drop]
  exact ping_run
theorem zero_head : (Frm.head (List.replicate 24 (0 : UInt8))).2 = 6 := by decide +kernel
theorem zero_run : Flo.feed ([], false) (List.replicate 24 0) = ([⟨[], [], 6⟩], [], true) := by
  show Flo.run (List.replicate 24 0) = _
  rw [Flo.run_bad (by simp) (by rw [List.take_of_length_le (by simp), zero_head]; decide), List.take_of_length_le (by simp), zero_head]
set_option maxHeartbeats 4000000 in
theorem flow_alive (w : World) (hl : Laid w) : Calls Tryd.prog 10 #[] w fun r w' => r = .returned (.bool true) ∧ Below w.heap.size w w' := by
  have HL := Lib.hid hl
  have l1 := hl.lc
  have l2 := hl.lf
  clear hl
  go_enter Tryd.func10, Tryd.ntmps10
  go_wp2_with fail
  refine (flowNew_any w).mono ?_
  rintro e w1 ⟨rfl, hk1, hz1, hb1⟩
  go_wp2_with fail
  refine (flowNew_any w1).mono ?_
  rintro e w2 ⟨rfl, hk2, hz2, hb2⟩
  obtain ⟨F, hF⟩ : ∃ F, F = w.heap.size := ⟨_, rfl⟩
  obtain ⟨G, hG⟩ : ∃ G, G = w1.heap.size := ⟨_, rfl⟩
  rw [← hF] at hk1
  rw [← hG] at hk2
  rw [← hF, ← hG]
  have HB2 := Lib.hid (hb1.trans (hb2.mono hb1.size))
  have HF2 := Lib.hid (hk1.below hb2 hk1.lt)
  have HG2 := Lib.hid hk2
  have fz : F < w2.heap.size := by omega
  have gz : G < w2.heap.size := by omega
  have fg : F ≠ G := by omega
  clear hk1 hk2 hb1 hb2
  have FW : w.heap.size ≤ F := by omega
  have GW : w.heap.size ≤ G := by omega
  have hw2 := HB2.out.size
  clear hF hG hz1 hz2
  have b2 := Joins.below_alloc1 w2 (.cells (bytesArr [1, 2]) 5)
  have hat2 := (Bk.new w2 5 (bytesArr [1, 2])).bytesAt (B := (w2.alloc (.cells (bytesArr [1, 2]) 5)).heap.size) (by simp)
  have HP := Lib.hid (put_row ⟨#[112, 105, 110, 103]⟩ (some ⟨w2.heap.size, 0, none⟩) 2 _ [1, 2] _ (HL.out.below (HB2.out.trans (b2.mono hw2))) (by decide) (by decide) (by decide) hat2 (Nat.le_refl _) (by decide) (by simp [maxLen]))
  rw [show Frm.put (⟨#[112, 105, 110, 103]⟩ : ByteArray).data.toList [1, 2] = pingFrame from rfl] at HP
  have HB3 := Lib.hid (HB2.out.trans (b2.mono hw2))
  have HF3 := Lib.hid (HF2.out.below b2 fz)
  have HG3 := Lib.hid (HG2.out.below b2 gz)
  clear b2 hat2
  go_wp2_with fail
  refine HP.out.mono ?_
  rintro e w4 ⟨g, rfl, hg, hk4, hb4⟩
  have hsz : w2.heap.size + 1 ≤ g := by simpa using hg
  have HB4 := Lib.hid (HB3.out.trans (hb4.mono HB3.out.size))
  have HF4 := Lib.hid (HF3.out.below hb4 HF3.out.lt)
  have HG4 := Lib.hid (HG3.out.below hb4 HG3.out.lt)
  have HK4 := Lib.hid hk4
  have gl4 := hk4.lt
  clear hk4 hb4 HP HF3 HG3 HB3 HF2 HG2 HB2 hg
  -- the first piece
  have hat4 := HK4.out.bytesAt (B := w4.heap.size) gl4
  have h41 := feed_any F w4.heap.size 26 (some ⟨g, 0, none⟩) (pingFrame.take 10) _ _ w4 (by omega) (Nat.le_refl _) (FlowS.new w w4.heap.size w4 F HF4.out) (BytesAt.take hat4 10) (fun a ha _ => by cases ha; show g ≠ F; omega) (HL.out.below HB4.out) (by have := HB4.out.size; omega) (by have := HB4.out.size; omega) (by omega) (by omega) (by rw [List.length_take]; omega) (by rw [List.length_take]; omega) (by simp [maxLen])
  rw [ping_one, show (pingFrame.take 10).length = 10 by rw [List.length_take, ping_len]; rfl] at h41
  have H41 := Lib.hid h41
  clear h41 hat4
  go_wp2_with fail
  refine H41.out.mono ?_
  rintro e w5 ⟨v5, rfl, vb5, hfs5, hside5⟩
  obtain ⟨A5, c5, rfl, _, _, _⟩ := hside5.row.at_
  have kp5 : Kp (fun i => i = F) w4 w5 := hside5.kp.mono (fun i _ h => h.elim (fun h => h) (fun h => by cases h))
  have HB5 := Lib.hid (Below.trans HB4.out (kp5.below_from (B := w.heap.size) FW HB4.out.size))
  have HS5 := Lib.hid hfs5
  have HG5 := Lib.hid (HG4.out.kp kp5 (fun e => fg e.symm))
  have HK5 := Lib.hid (HK4.out.kp kp5 (by omega))
  clear hside5 hfs5 kp5 H41 HF4 HG4 HB4 HK4
  simp only [List.length_nil]
  go_wp2_with fail
  refine (waits_s HS5.out).mono ?_
  rw [show (pingFrame.take 10, false).1.length = 10 by show (pingFrame.take 10).length = 10; rw [List.length_take, ping_len]; rfl]
  rintro e w6 ⟨rfl, hb6⟩
  have HB6 := Lib.hid (HB5.out.trans (hb6.mono HB5.out.size))
  have HG6 := Lib.hid (HG5.out.below hb6 HG5.out.lt)
  have HK6 := Lib.hid (HK5.out.below hb6 HK5.out.lt)
  have fl5 := HS5.out.lt.1
  have HS6 := Lib.hid ((HS5.out.kp (Kp.of_below (S := fun _ => False) hb6) (fun h => h) (fun _ _ h => h)).rebase (by show (pingFrame.take 10).length < 24; rw [List.length_take]; omega) w6.heap.size)
  have hw6 := hb6.size
  have hw5 := HB5.out.size
  clear hb6 HB5 HG5 HK5 HS5
  have gl6 := HK6.out.lt
  have hat6 : BytesAt w6 w6.heap.size (some ⟨g, 10, none⟩) (pingFrame.drop 10) := by have := (HK6.out.bytesAt (B := w6.heap.size) gl6).drop 10; rwa [Nat.zero_add] at this
  have h61 := feed_any F w6.heap.size 16 (some ⟨g, 10, none⟩) (pingFrame.drop 10) _ _ w6 (by omega) (Nat.le_refl _) HS6.out hat6 (fun a ha _ => by cases ha; show g ≠ F; omega) (HL.out.below HB6.out) (by omega) (by omega) (by omega) (by omega) (by rw [List.length_drop, ping_len]; omega) (by rw [List.length_drop, ping_len]; omega) (by simp [maxLen])
  rw [ping_two, show (pingFrame.drop 10).length = 16 by rw [List.length_drop, ping_len]] at h61
  have H61 := Lib.hid h61
  clear h61 hat6
  go_wp2_with fail
  refine H61.out.mono ?_
  rintro e w7 ⟨v7, rfl, vb7, hfs7, hside7⟩
  have kp7 : Kp (fun i => i = F) w6 w7 := hside7.kp.mono (fun i hi h => h.elim (fun h => h) (fun h => by have := HS6.out.lt.2 i h; omega))
  obtain ⟨A7, c7, rfl, _, _, hit7⟩ := hside7.row.at_
  have hlt7 := hside7.row.lt
  obtain ⟨b7, o7, A1, c1, rfl, hb7, _, _, _, d0, d1, d2⟩ := hit7.cells (i := 0) (by decide)
  have hge7 : w6.heap.size ≤ b7 := (hlt7 b7 rfl).1
  have HB7 := Lib.hid (Below.trans HB6.out (kp7.below_from (B := w.heap.size) FW HB6.out.size))
  have HS7 := Lib.hid hfs7
  have HG7 := Lib.hid (HG6.out.kp kp7 (fun e => fg e.symm))
  have hw7 := kp7.size
  simp only [List.getElem_cons_zero, List.length_cons, List.length_nil, Nat.zero_mul, Nat.add_zero] at d0 d1 d2
  clear hside7 hfs7 kp7 H61 HG6 HB6 HK6 HS6 hit7 hlt7
  simp only [List.length_cons, List.length_nil]
  have hmk := run_make_row' (P := Tryd.prog) 28 5 (.int .u8 0) 1 Tryd.underlying28 byte_info rfl .i64 .i64 24 (by omega) (by omega)
  rw [show ((24 : Nat) : Int) = 24 from rfl] at hmk
  have b8 := Joins.below_alloc1 w7 (.cells (bytesArr (List.replicate 24 0)) 5)
  have hat8 := (Bk.new w7 5 (bytesArr (List.replicate 24 0))).bytesAt (B := (w7.alloc (.cells (bytesArr (List.replicate 24 0)) 5)).heap.size) (by simp)
  obtain ⟨W8, hW8⟩ : ∃ W8, W8 = w7.alloc (.cells (bytesArr (List.replicate 24 0)) 5) := ⟨_, rfl⟩
  rw [← hW8] at b8 hat8
  have hg8 := HG7.out.below b8 HG7.out.lt
  have hf8 := HS7.out.kp (Kp.of_below (S := fun _ => False) b8) (fun h => h) (fun _ _ h => h)
  have hB8 := HB7.out.trans (b8.mono HB7.out.size)
  have hw8 := b8.size
  have gl7 := HG7.out.lt
  have h81 := feed_any G W8.heap.size 24 (some ⟨w7.heap.size, 0, none⟩) (List.replicate 24 0) _ _ W8 (by omega) (Nat.le_refl _) (FlowS.new w W8.heap.size W8 G hg8) hat8 (fun a ha _ => by cases ha; show w7.heap.size ≠ G; omega) (HL.out.below hB8) (by omega) (by omega) (by omega) (by omega) (by rw [List.length_replicate]; omega) (by rw [List.length_replicate]; omega) (by simp [maxLen])
  rw [zero_run, List.length_replicate, hW8] at h81
  have H81 := Lib.hid h81
  have HF8 := Lib.hid hf8
  have HB8 := Lib.hid hB8
  have B8 := Lib.hid b8
  have e0 := (b8.cell (p := ⟨b7, o7, none⟩) hb7).trans d0
  have e1 := (b8.cell (p := ⟨b7, o7 + 1, none⟩) hb7).trans d1
  clear h81 hat8 hg8 hf8 hB8 b8 d0 d1 d2 HS7 HG7 HB7
  go_wp2_with fail
  rw [made_zero]
  refine H81.out.mono ?_
  rintro e w9 ⟨v9, rfl, vb9, hfs9, hside9⟩
  rw [← hW8] at hside9
  have kp9 : Kp (fun i => i = G) W8 w9 := hside9.kp.mono (fun i _ h => h.elim (fun h => h) (fun h => by cases h))
  have fl8 := HF8.out.lt
  obtain ⟨A9, c9, rfl, _, _, hit9⟩ := hside9.row.at_
  obtain ⟨b9, o9, A2, c2, rfl, hb9, _, _, _, g0, g1, g2⟩ := hit9.cells (i := 0) (by decide)
  have HB9 := Lib.hid (Below.trans HB8.out (kp9.below_from (B := w.heap.size) GW HB8.out.size))
  have HF9 := Lib.hid (HF8.out.kp kp9 fg (fun i hi e => by have := fl8.2 i hi; omega))
  have HG9 := Lib.hid hfs9
  have k0 := (kp9.cell (p := ⟨b7, o7, none⟩) (by show b7 < _; omega) (by show ¬ b7 = G; omega)).trans e0
  have k1 := (kp9.cell (p := ⟨b7, o7 + 1, none⟩) (by show b7 < _; omega) (by show ¬ b7 = G; omega)).trans e1
  simp only [List.getElem_cons_zero, List.length_cons, List.length_nil, Nat.zero_mul, Nat.add_zero] at g0 g1 g2
  have hw9 := kp9.size
  have HW1 := Lib.hid (waits_s HF9.out)
  clear hside9 hfs9 kp9 H81 HF8 HB8 B8 hit9 fl8 e0 e1 hW8 hmk
  simp only [List.length_cons, List.length_nil]
  go_wp2_with fail
  refine HW1.out.mono ?_
  rintro e w10 ⟨rfl, hb10⟩
  have m2 := (hb10.cell (p := ⟨b9, o9 + 2, none⟩) hb9).trans g2
  have HB10 := Lib.hid (HB9.out.trans (hb10.mono HB9.out.size))
  have HD1 := Lib.hid (dead_s (HG9.out.kp (Kp.of_below (S := fun _ => False) hb10) (fun h => h) (fun _ _ h => h)))
  have HD2 := Lib.hid (dead_s (HF9.out.kp (Kp.of_below (S := fun _ => False) hb10) (fun h => h) (fun _ _ h => h)))
  clear hb10 HW1 HF9 HG9 HB9
  go_wp2_with fail
  refine HD1.out.mono ?_
  rintro e w11 ⟨rfl, rfl⟩
  go_wp2_with fail
  refine HD2.out.mono ?_
  rintro e w11 ⟨rfl, rfl⟩
  go_wp2_with fail
  go_ret
  exact ⟨rfl, HB10.out⟩
end Go.Proofs.YteebehmmfkapgaaDoor
