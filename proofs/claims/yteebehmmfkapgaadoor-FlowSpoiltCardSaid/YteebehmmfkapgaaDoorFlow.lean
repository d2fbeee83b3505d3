/- Package flow: New, Waits, Dead, whole. -/
import Derived.Test.YteebehmmfkapgaaDoorFlowItems
namespace Go.Proofs.YteebehmmfkapgaaDoor
open Go.RowKit Go.Deep
set_option linter.unusedVariables false
set_option linter.unusedSimpArgs false
set_option maxRecDepth 100000
attribute [local go_sem ↓] Go.wp_at_zero Go.wp_at_succ

def flowTail (n : Nat) (h : Frm.Head) (body : Value) (dead : Bool) : List Value := [.int .i64 (n : Int), .string ⟨h.cmd.toArray⟩, .int .i64 (h.len : Int), .int .u32 (h.sum : Int), body, .bool dead]
def flowCells (hd : List UInt8) (tl : List Value) : List Value := hd.map byteV ++ tl
def noHead : Frm.Head := ⟨[], 0, 0⟩
theorem flow_cell {w : World} {F T : Nat} {hd : List UInt8} {tl : List Value} (h : Bk w F T (flowCells hd tl).toArray) (hl : hd.length = 24) (k : Nat) : w.cell? ⟨F, 24 + k, none⟩ = tl[k]? := by
  rw [h.cell]
  simp only [flowCells, List.getElem?_toArray]
  rw [List.getElem?_append_right (by simp [hl])]
  simp [hl]
theorem flow_set {w : World} {F T : Nat} {hd : List UInt8} {tl : List Value} (h : Bk w F T (flowCells hd tl).toArray) (hl : hd.length = 24) (k : Nat) (v : Value) : Bk (w.setCell ⟨F, 24 + k, none⟩ v) F T (flowCells hd (tl.set k v)).toArray := by
  have := h.set (24 + k) v
  have e : (flowCells hd tl).toArray.setIfInBounds (24 + k) v = (flowCells hd (tl.set k v)).toArray := by
    simp only [flowCells, List.setIfInBounds_toArray]
    rw [List.set_append_right _ _ (by simp [hl])]
    simp [hl]
  rwa [e] at this
theorem flow_tail {w : World} {F T n : Nat} {hd : List UInt8} {h : Frm.Head} {body : Value} {dead : Bool} (hk : Bk w F T (flowCells hd (flowTail n h body dead)).toArray) (hl : hd.length = 24) :
    w.cell? ⟨F, 24, none⟩ = some (.int .i64 (n : Int)) ∧ w.cell? ⟨F, 25, none⟩ = some (.string ⟨h.cmd.toArray⟩) ∧ w.cell? ⟨F, 26, none⟩ = some (.int .i64 (h.len : Int)) ∧ w.cell? ⟨F, 27, none⟩ = some (.int .u32 (h.sum : Int)) ∧
    w.cell? ⟨F, 28, none⟩ = some body ∧ w.cell? ⟨F, 29, none⟩ = some (.bool dead) :=
  ⟨flow_cell hk hl 0, flow_cell hk hl 1, flow_cell hk hl 2, flow_cell hk hl 3, flow_cell hk hl 4, flow_cell hk hl 5⟩
theorem kp_cell1 (w : World) (g o : Nat) (v : Value) : Kp (fun i => i = g) w (w.setCell ⟨g, o, none⟩ v) := (Kp.refl (fun i => i = g) w).setCell (p := ⟨g, o, none⟩) (fun _ => rfl) v
theorem flowNew_any (w : World) : Calls Tryd.prog 12 #[] w fun e w' => e = .returned (.pointer (some ⟨w.heap.size, 0, none⟩)) ∧ Bk w' w.heap.size 63 (flowCells (List.replicate 24 0) (flowTail 0 noHead (.slice none 0 0) false)).toArray ∧ w'.heap.size = w.heap.size + 1 ∧ Below w.heap.size w w' := by
  go_enter Tryd.func12, Tryd.ntmps12
  go_wp2_with fail
  go_ret
  exact ⟨rfl, Bk.new _ _ _, by simp, Joins.below_alloc1 _ _⟩
set_option maxHeartbeats 2000000 in
theorem waits_any (F n : Nat) (hd : List UInt8) (h : Frm.Head) (A : Option Addr) (m c : Nat) (dead : Bool) (w : World) (hk : Bk w F 63 (flowCells hd (flowTail n h (.slice A m c) dead)).toArray) (hl : hd.length = 24) (hn : n ≤ 24) (hm : m ≤ 10000) :
    Calls Tryd.prog 16 #[.pointer (some ⟨F, 0, none⟩)] w fun e w' => e = .returned (.int .i64 ((n + m : Nat) : Int)) ∧ Below w.heap.size w w' := by
  obtain ⟨c0, _, _, _, c4, _⟩ := flow_tail hk hl
  clear hk
  go_enter Tryd.func16, Tryd.ntmps16
  go_wp2_with fail
  go_quiet (fail)
  go_wp2_with fail
  go_ret
  exact ⟨by simp, by first | exact Below.refl _ _ | exact below_drewN (Below.refl _ _) _⟩
theorem dead_any (F n : Nat) (hd : List UInt8) (h : Frm.Head) (v : Value) (dead : Bool) (w : World) (hk : Bk w F 63 (flowCells hd (flowTail n h v dead)).toArray) (hl : hd.length = 24) :
    Calls Tryd.prog 17 #[.pointer (some ⟨F, 0, none⟩)] w fun e w' => e = .returned (.bool dead) ∧ w' = w := by
  obtain ⟨_, _, _, _, _, c5⟩ := flow_tail hk hl
  clear hk
  go_enter Tryd.func17, Tryd.ntmps17
  go_wp2_with fail
  go_ret
  exact ⟨rfl, rfl⟩
theorem whole_end {w w3 : World} {F : Nat} {hd : List UInt8} {hv : Frm.Head} {v : Value} (hl : hd.length = 24) (hlt : F < w.heap.size) (hk : Kp (fun i => i = F) w w3) (kF : Bk w3 F 63 (flowCells hd (flowTail 24 hv v false)).toArray)
    {x y z : Value} (k2 : Bk w3 w.heap.size 52 #[x, y, z]) (a b c : Value) :
    let W := (((((((w3.setCell ⟨F, 24, none⟩ (.int .i64 0)).setCell ⟨F, 25, none⟩ (.string ⟨#[]⟩)).setCell ⟨F, 26, none⟩ (.int .i64 0)).setCell ⟨F, 27, none⟩ (.int .u32 0)).setCell ⟨F, 28, none⟩ (.slice none 0 0)).setCell ⟨w.heap.size, 0, none⟩ a).setCell ⟨w.heap.size, 1, none⟩ b).setCell ⟨w.heap.size, 2, none⟩ c
    Bk W F 63 (flowCells hd (flowTail 0 noHead (.slice none 0 0) false)).toArray ∧ Bk W w.heap.size 52 #[a, b, c] ∧ Kp (fun i => i = F) w W := by
  intro W
  have hne : F ≠ w.heap.size := by omega
  refine ⟨?_, ?_, ?_⟩
  · have h1 := flow_set (flow_set (flow_set (flow_set (flow_set kF hl 0 (.int .i64 0)) hl 1 (.string ⟨#[]⟩)) hl 2 (.int .i64 0)) hl 3 (.int .u32 0)) hl 4 (.slice none 0 0)
    exact ((Bk.far h1 (p := ⟨w.heap.size, 0, none⟩) hne a).far (p := ⟨w.heap.size, 1, none⟩) hne b).far (p := ⟨w.heap.size, 2, none⟩) hne c
  · have h2 := ((((k2.far (p := ⟨F, 24, none⟩) hne.symm (.int .i64 0)).far (p := ⟨F, 25, none⟩) hne.symm (.string ⟨#[]⟩)).far (p := ⟨F, 26, none⟩) hne.symm (.int .i64 0)).far (p := ⟨F, 27, none⟩) hne.symm (.int .u32 0)).far (p := ⟨F, 28, none⟩) hne.symm (.slice none 0 0)
    exact ((h2.set 0 a).set 1 b).set 2 c
  · exact (((((((hk.setCell (p := ⟨F, 24, none⟩) (fun _ => rfl) _).setCell (p := ⟨F, 25, none⟩) (fun _ => rfl) _).setCell (p := ⟨F, 26, none⟩) (fun _ => rfl) _).setCell (p := ⟨F, 27, none⟩) (fun _ => rfl) _).setCell (p := ⟨F, 28, none⟩) (fun _ => rfl) _).setCell (p := ⟨w.heap.size, 0, none⟩) (fun h => absurd h (Nat.lt_irrefl _)) _).setCell (p := ⟨w.heap.size, 1, none⟩) (fun h => absurd h (Nat.lt_irrefl _)) _).setCell (p := ⟨w.heap.size, 2, none⟩) (fun h => absurd h (Nat.lt_irrefl _)) _
theorem item_size : (Tryd.prog.info? 52).map (·.size) = some 3 := by kernel_rfl
set_option maxHeartbeats 2000000 in
theorem whole_any (F : Nat) (hd : List UInt8) (hv : Frm.Head) (A : Option Addr) (n c B : Nat) (body : List UInt8) (w : World) (hk : Bk w F 63 (flowCells hd (flowTail 24 hv (.slice A n c) false)).toArray) (hl : hd.length = 24) (hlay : Laid w)
    (hb : BytesAt w B A body) (hB : B ≤ w.heap.size) (hbl : body.length = n) (hc : n ≤ c) (hm : c ≤ maxLen) (hs : n ≤ 2048) (hsum : hv.sum < 4294967296) :
    Calls Tryd.prog 23 #[.pointer (some ⟨F, 0, none⟩)] w fun e w' => ∃ u, e = .returned (.agg (itemCells (Flo.item hv body) u).toArray) ∧ (u = .slice A n c ∧ (Flo.item hv body).body = body ∨ u = .slice none 0 0 ∧ (Flo.item hv body).body = []) ∧
      Bk w' F 63 (flowCells hd (flowTail 0 noHead (.slice none 0 0) false)).toArray ∧ Kp (fun i => i = F) w w' := by
  obtain ⟨c0, c1, c2, c3, c4, c5⟩ := flow_tail hk hl
  have HK := Lib.hid hk
  have HL := Lib.hid hl
  have HLAY := Lib.hid hlay
  have HLT := hk.lt
  have hse := str_empty ⟨hv.cmd.toArray⟩
  have f24 := hk.frozen 24
  have f25 := hk.frozen 25
  have f26 := hk.frozen 26
  have f27 := hk.frozen 27
  have f28 := hk.frozen 28
  obtain ⟨cmd, len, sum⟩ := hv
  simp only at c1 c2 c3 hse hsum
  clear hk hl hlay
  go_enter Tryd.func23, Tryd.ntmps23
  go_wp2_with fail
  go_region_held3 (fun w' => w'.cell? ⟨F, 25, none⟩ = some (.string ⟨cmd.toArray⟩) ∧ w'.cell? ⟨F, 28, none⟩ = some (.slice A n c)) (go_keep) (fail)
  obtain ⟨w2, hw2⟩ : ∃ w2, w2 = ((w.alloc (.cells #[.string ⟨#[]⟩, .slice none 0 0, .int .i64 0] 52)).alloc (.cells #[.string ⟨cmd.toArray⟩, .slice A n c, .int .i64 0] 52)).drew := ⟨_, rfl⟩
  rw [← hw2]
  have k2 : Bk w2 w.heap.size 52 #[.string ⟨#[]⟩, .slice none 0 0, .int .i64 0] := by rw [hw2]; exact ((Bk.new _ _ _).alloc _).drew
  have k3 : Bk w2 (w.heap.size + 1) 52 #[.string ⟨cmd.toArray⟩, .slice A n c, .int .i64 0] := by
    rw [hw2]
    have := Bk.new (w.alloc (.cells #[.string ⟨#[]⟩, .slice none 0 0, .int .i64 0] 52)) 52 #[.string ⟨cmd.toArray⟩, .slice A n c, .int .i64 0]
    rw [show (w.alloc (.cells #[.string ⟨#[]⟩, .slice none 0 0, .int .i64 0] 52)).heap.size = w.heap.size + 1 by simp] at this
    exact this.drew
  have b2 : Below w.heap.size w w2 := by rw [hw2]; exact below_drewN (((Below.refl _ _).alloc (Nat.le_refl _) _).alloc (by simp) _) 1
  have kF := HK.out.below b2 HLT
  have e0 : w2.cell? ⟨w.heap.size + 1, 0, none⟩ = some (.string ⟨cmd.toArray⟩) := (k3.cell 0).trans rfl
  have fr := k3.frozen
  have fr2 := k2.frozen
  have frF := kF.frozen
  clear c0 c1 c2 c3 c4 c5 f24 f25 f26 f27 f28 hw2
  obtain ⟨c0, c1, c2, c3, c4, c5⟩ := flow_tail kF HL.out
  have e1 : w2.cell? ⟨w.heap.size + 1, 1, none⟩ = some (.slice A n c) := (k3.cell 1).trans rfl
  have e2 : w2.cell? ⟨w.heap.size + 1, 2, none⟩ = some (.int .i64 0) := (k3.cell 2).trans rfl
  have d0 : w2.cell? ⟨w.heap.size, 0, none⟩ = some (.string ⟨#[]⟩) := (k2.cell 0).trans rfl
  have d1 : w2.cell? ⟨w.heap.size, 1, none⟩ = some (.slice none 0 0) := (k2.cell 1).trans rfl
  have d2 : w2.cell? ⟨w.heap.size, 2, none⟩ = some (.int .i64 0) := (k2.cell 2).trans rfl
  have n1 : ¬ (w.heap.size + 1 = F) := by omega
  have n2 : ¬ (w.heap.size = F) := by omega
  have n3 : ¬ (F = w.heap.size + 1) := by omega
  have n4 : ¬ (F = w.heap.size) := by omega
  have K2 := Lib.hid k2
  have K3 := Lib.hid k3
  have KF := Lib.hid kF
  have B2 := Lib.hid b2
  clear k2 k3 kF b2
  by_cases hcm : cmd = []
  · have hse' : cmd.isEmpty = true := by simpa using hcm
    have HCM := Lib.hid hcm
    clear hse hcm
    go_wp2_with fail
    have hit : Flo.item ⟨cmd, len, sum⟩ body = ⟨[], [], 8⟩ := by unfold Flo.item; rw [if_pos HCM.out]
    obtain ⟨g1, g2, g3⟩ := whole_end HL.out HLT (((Kp.of_below B2.out).setCell (p := ⟨w.heap.size + 1, 0, none⟩) (fun h => absurd h (by show ¬ w.heap.size + 1 < _; omega)) (.string ⟨#[]⟩)).setCell (p := ⟨w.heap.size + 1, 1, none⟩) (fun h => absurd h (by show ¬ w.heap.size + 1 < _; omega)) (.slice none 0 0) |>.setCell (p := ⟨w.heap.size + 1, 2, none⟩) (fun h => absurd h (by show ¬ w.heap.size + 1 < _; omega)) (.int .i64 8))
      (((KF.out.far (p := ⟨w.heap.size + 1, 0, none⟩) n3 (.string ⟨#[]⟩)).far (p := ⟨w.heap.size + 1, 1, none⟩) n3 (.slice none 0 0)).far (p := ⟨w.heap.size + 1, 2, none⟩) n3 (.int .i64 8))
      (((K2.out.far (p := ⟨w.heap.size + 1, 0, none⟩) (by show w.heap.size ≠ w.heap.size + 1; omega) (.string ⟨#[]⟩)).far (p := ⟨w.heap.size + 1, 1, none⟩) (by show w.heap.size ≠ w.heap.size + 1; omega) (.slice none 0 0)).far (p := ⟨w.heap.size + 1, 2, none⟩) (by show w.heap.size ≠ w.heap.size + 1; omega) (.int .i64 8)) (.string ⟨#[]⟩) (.slice none 0 0) (.int .i64 8)
    refine bodyPost_ret (results_cell_row rfl _ _ w.heap.size 52 #[.string ⟨#[]⟩, .slice none 0 0, .int .i64 8] (0, 0) _ rfl g2 Tryd.underlying52 rfl item_size) rfl ?_
    rw [hit]
    exact ⟨.slice none 0 0, rfl, .inr ⟨rfl, rfl⟩, g1, g3⟩
  · have hse' : cmd.isEmpty = false := by simpa using hcm
    have HCM := Lib.hid hcm
    have LF2 : F < w2.heap.size := KF.out.lt
    have hck := fun i => check_any A c B body (w2.drewN i) (HLAY.out.below (below_drewN B2.out i)) (hb.below (below_drewN (B2.out.mono hB) i)) (Nat.le_trans hB B2.out.size) (by omega) hm (by omega)
    rw [hbl] at hck
    obtain ⟨x, hx⟩ : ∃ x, x = (Sha.check body).toNat := ⟨_, rfl⟩
    rw [← hx] at hck
    have HCK := Lib.hid hck
    have HX := Lib.hid hx
    clear hse hcm hck hx
    go_upto_region 4 with (fail)
    go_region_held3 (fun w' => w'.cell? ⟨F, 27, none⟩ = some (.int .u32 (sum : Int)) ∧ w'.cell? ⟨F, 28, none⟩ = some (.slice A n c)) (first | go_keep | exact ⟨(hb3.cell (p := ⟨F, 27, none⟩) LF2).trans c3, (hb3.cell (p := ⟨F, 28, none⟩) LF2).trans c4⟩) ((go_at_call 27; refine (HCK.out _).mono ?_; rintro e w' ⟨rfl, hb3⟩))
    have B3 := Lib.hid ((below_drewN B2.out 1).trans (hb3.mono B2.out.size))
    have K4 := Lib.hid ((K2.out.drewN 1).below hb3 (K2.out.lt))
    have K5 := Lib.hid ((K3.out.drewN 1).below hb3 (K3.out.lt))
    have KF3 := Lib.hid ((KF.out.drewN 1).below hb3 LF2)
    obtain ⟨w3, hw3⟩ : ∃ w3, w3 = w' := ⟨_, rfl⟩
    rw [← hw3] at B3 K4 K5 KF3 ⊢
    clear hb3 hw3 c0 c1 c2 c3 c4 c5 e0 e1 e2 d0 d1 d2 fr fr2 frF LF2 KF K3 K2 B2 HCK
    obtain ⟨c0, c1, c2, c3, c4, c5⟩ := flow_tail KF3.out HL.out
    have e0 : w3.cell? ⟨w.heap.size + 1, 0, none⟩ = some (.string ⟨cmd.toArray⟩) := (K5.out.cell 0).trans rfl
    have e1 : w3.cell? ⟨w.heap.size + 1, 1, none⟩ = some (.slice A n c) := (K5.out.cell 1).trans rfl
    have e2 : w3.cell? ⟨w.heap.size + 1, 2, none⟩ = some (.int .i64 0) := (K5.out.cell 2).trans rfl
    have d0 : w3.cell? ⟨w.heap.size, 0, none⟩ = some (.string ⟨#[]⟩) := (K4.out.cell 0).trans rfl
    have d1 : w3.cell? ⟨w.heap.size, 1, none⟩ = some (.slice none 0 0) := (K4.out.cell 1).trans rfl
    have d2 : w3.cell? ⟨w.heap.size, 2, none⟩ = some (.int .i64 0) := (K4.out.cell 2).trans rfl
    have fr := K5.out.frozen
    have fr2 := K4.out.frozen
    have frF := KF3.out.frozen
    by_cases hxs : x = sum
    · have hxs' : ((x : Int) != (sum : Int)) = false := by rw [bne_eq_false_iff_eq]; omega
      have hit : Flo.item ⟨cmd, len, sum⟩ body = ⟨cmd, body, 0⟩ := by unfold Flo.item; rw [if_neg HCM.out, if_neg (by rw [← HX.out, hxs]; simp)]
      have HIT := Lib.hid hit
      clear hxs hit
      go_wp2_with fail
      obtain ⟨g1, g2, g3⟩ := whole_end HL.out HLT (Kp.of_below B3.out) KF3.out K4.out (.string ⟨cmd.toArray⟩) (.slice A n c) (.int .i64 0)
      refine bodyPost_ret (results_cell_row rfl _ _ w.heap.size 52 #[.string ⟨cmd.toArray⟩, .slice A n c, .int .i64 0] (0, 0) _ rfl g2 Tryd.underlying52 rfl item_size) rfl ?_
      rw [HIT.out]
      exact ⟨.slice A n c, rfl, .inl ⟨rfl, rfl⟩, g1, g3⟩
    · have hxs' : ((x : Int) != (sum : Int)) = true := by rw [bne_iff_ne]; omega
      have hit : Flo.item ⟨cmd, len, sum⟩ body = ⟨[], [], 7⟩ := by unfold Flo.item; rw [if_neg HCM.out, if_pos (by rw [← HX.out]; exact hxs)]
      have HIT := Lib.hid hit
      clear hxs hit
      go_wp2_with fail
      obtain ⟨g1, g2, g3⟩ := whole_end HL.out HLT (((Kp.of_below B3.out).setCell (p := ⟨w.heap.size + 1, 0, none⟩) (fun h => absurd h (by show ¬ w.heap.size + 1 < _; omega)) (.string ⟨#[]⟩)).setCell (p := ⟨w.heap.size + 1, 1, none⟩) (fun h => absurd h (by show ¬ w.heap.size + 1 < _; omega)) (.slice none 0 0) |>.setCell (p := ⟨w.heap.size + 1, 2, none⟩) (fun h => absurd h (by show ¬ w.heap.size + 1 < _; omega)) (.int .i64 7))
        (((KF3.out.far (p := ⟨w.heap.size + 1, 0, none⟩) n3 (.string ⟨#[]⟩)).far (p := ⟨w.heap.size + 1, 1, none⟩) n3 (.slice none 0 0)).far (p := ⟨w.heap.size + 1, 2, none⟩) n3 (.int .i64 7))
        (((K4.out.far (p := ⟨w.heap.size + 1, 0, none⟩) (by show w.heap.size ≠ w.heap.size + 1; omega) (.string ⟨#[]⟩)).far (p := ⟨w.heap.size + 1, 1, none⟩) (by show w.heap.size ≠ w.heap.size + 1; omega) (.slice none 0 0)).far (p := ⟨w.heap.size + 1, 2, none⟩) (by show w.heap.size ≠ w.heap.size + 1; omega) (.int .i64 7)) (.string ⟨#[]⟩) (.slice none 0 0) (.int .i64 7)
      refine bodyPost_ret (results_cell_row rfl _ _ w.heap.size 52 #[.string ⟨#[]⟩, .slice none 0 0, .int .i64 7] (0, 0) _ rfl g2 Tryd.underlying52 rfl item_size) rfl ?_
      rw [HIT.out]
      exact ⟨.slice none 0 0, rfl, .inr ⟨rfl, rfl⟩, g1, g3⟩
end Go.Proofs.YteebehmmfkapgaaDoor
