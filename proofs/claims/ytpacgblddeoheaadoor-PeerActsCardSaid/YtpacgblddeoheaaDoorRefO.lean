/- RefO, merged: Ref02G, OctReadR. -/
import Derived.Test.YtpacgblddeoheaaDoorRef02L
import Derived.Test.YtpacgblddeoheaaDoorOctRead
/- The document's numbers as bytes: Get of pappusref02. -/
namespace Go.Proofs.YtpacgblddeoheaaDoor
open Go.RowKit Go.Deep
set_option linter.unusedVariables false
set_option linter.unusedSimpArgs false
set_option maxRecDepth 100000
attribute [local go_sem ↓] Go.wp_at_zero Go.wp_at_succ
set_option maxHeartbeats 400000 in
theorem rget_no (A : Option Addr) (n cap : Nat) (hn : ¬ (n = 1 ∨ n = 2 ∨ n = 4 ∨ n = 8)) (w : World) :
    Calls Tryd.prog 58 #[.slice A n cap] w fun r w' => r = .returned (.tuple #[.int .u64 0, .int .i64 2]) ∧ w = w' := by
  have e1 : ((n : Int) != 1) = true := by rw [bne_iff_ne]; omega
  have e2 : ((n : Int) != 2) = true := by rw [bne_iff_ne]; omega
  have e4 : ((n : Int) != 4) = true := by rw [bne_iff_ne]; omega
  have e8 : ((n : Int) != 8) = true := by rw [bne_iff_ne]; omega
  clear hn
  go_enter Tryd.func58, Tryd.ntmps58
  go_wp2
  go_ret2
  exact ⟨rfl, rfl⟩
set_option maxHeartbeats 1000000 in
theorem rget_yes (A : Option Addr) (cap B : Nat) (bs : List UInt8) (hn : bs.length = 1 ∨ bs.length = 2 ∨ bs.length = 4 ∨ bs.length = 8) (w : World) (h : BytesAt w B A bs) :
    Calls Tryd.prog 58 #[.slice A bs.length cap] w fun r w' => r = .returned (.tuple #[.int .u64 (Oct.val bs : Nat), .int .i64 0]) ∧ w = w' := by
  have hn8 : bs.length ≤ 8 := by omega
  have H : (((bs.length : Int) != 1) = false) ∨ (((bs.length : Int) != 1) = true ∧ ((bs.length : Int) != 2) = false) ∨ (((bs.length : Int) != 1) = true ∧ ((bs.length : Int) != 2) = true ∧ ((bs.length : Int) != 4) = false) ∨
      (((bs.length : Int) != 1) = true ∧ ((bs.length : Int) != 2) = true ∧ ((bs.length : Int) != 4) = true ∧ ((bs.length : Int) != 8) = false) := by
    simp only [bne_iff_ne, bne_eq_false_iff_eq]; omega
  have h0 : 1 ≤ bs.length := by omega
  clear hn
  rcases H with e1 | ⟨e1, e2⟩ | ⟨e1, e2, e3⟩ | ⟨e1, e2, e3, e4⟩
  all_goals
    go_enter Tryd.func58, Tryd.ntmps58
    go_wp2
    go_loop [4, 5] (fun x i => ∃ k : Nat, k ≤ bs.length ∧ i = .int .i64 ((k : Int) - 1) ∧ x = .int .u64 (Oct.val (bs.drop k) : Nat)) (fun _ i => (intOf i + 1).toNat)
    case atStart => exact ⟨bs.length, Nat.le_refl _, rfl, by simp [Oct.val]⟩
    case round =>
      obtain ⟨k, hk', rfl, rfl⟩ := hrel
      rcases Nat.eq_zero_or_pos k with h0' | hpos
      · subst h0'
        rw [List.drop_zero]
        go_wp2
        go_ret2
        exact ⟨rfl, rfl⟩
      · obtain ⟨j, rfl⟩ : ∃ j, k = j + 1 := ⟨k - 1, by omega⟩
        rw [show ((j + 1 : Nat) : Int) - 1 = (j : Int) by omega]
        have hj : j < bs.length := by omega
        obtain ⟨q, off, rfl, _, c1⟩ := h.cell hj
        have hx1 := bs[j].toNat_lt
        have ev := val_drop bs j hj
        have hu := val_u64 (bs.drop j) (by simp; omega)
        rw [ev] at hu
        have Ev := Lib.hid ev
        clear ev h
        generalize bs[j] = c at *
        generalize Oct.val (bs.drop (j + 1)) = y at *
        go_wp2
        go_round
        case rel => exact ⟨j, by omega, rfl, by rw [Ev.out, get_step hu]⟩
        case measure => simp [intOf]

end Go.Proofs.YtpacgblddeoheaaDoor
/- pappusref02.Read. -/
namespace Go.Proofs.YtpacgblddeoheaaDoor
open Go.RowKit Go.Deep
set_option linter.unusedVariables false
set_option linter.unusedSimpArgs false
set_option maxRecDepth 100000
attribute [local go_sem ↓] Go.wp_at_zero Go.wp_at_succ

/-- read as short as may be: the very bytes -/
theorem var_same {c : UInt8} {r : List UInt8} {m : Nat} (hm : m ≤ r.length) (hc : (m = 2 ∧ c = 253) ∨ (m = 4 ∧ c = 254) ∨ (m = 8 ∧ c = 255)) :
    (Oct.var (Oct.val (r.take m)) = (c :: r).take (m + 1)) ↔ Oct.size (Oct.val (r.take m)) = m + 1 := by
  have hl : (r.take m).length = m := by rw [List.length_take]; omega
  constructor
  · intro h
    rw [← Oct.var_length, h, List.length_take, List.length_cons]; omega
  · intro h
    have hx : ¬ Oct.val (r.take m) < 253 := by
      intro hlt
      rw [Oct.size, if_pos hlt] at h
      omega
    unfold Oct.var
    rw [if_neg hx, h, List.take_succ_cons]
    have e1 := Oct.le_val (r.take m)
    rw [hl] at e1
    rw [show m + 1 - 1 = m by omega, e1]
    congr 1
    rcases hc with ⟨rfl, rfl⟩ | ⟨rfl, rfl⟩ | ⟨rfl, rfl⟩ <;> rfl
theorem first_of {c : UInt8} {m : Nat} (h : (m = 2 ∧ ((c.toNat : Int) == 253) = true) ∨ (m = 4 ∧ ((c.toNat : Int) == 253) = false ∧ ((c.toNat : Int) == 254) = true) ∨ (m = 8 ∧ ((c.toNat : Int) == 253) = false ∧ ((c.toNat : Int) == 254) = false ∧ ((c.toNat : Int) == 255) = true)) :
    (m = 2 ∧ c = 253) ∨ (m = 4 ∧ c = 254) ∨ (m = 8 ∧ c = 255) := by
  have key : ∀ (k : Nat), k < 256 → ((c.toNat : Int) == (k : Int)) = true → c = UInt8.ofNat k := by
    intro k hk e
    rw [beq_iff_eq] at e
    apply UInt8.toNat_inj.1
    rw [UInt8.toNat_ofNat']
    omega
  rcases h with ⟨h, e⟩ | ⟨h, _, e⟩ | ⟨h, _, _, e⟩
  · exact .inl ⟨h, key 253 (by omega) e⟩
  · exact .inr (.inl ⟨h, key 254 (by omega) e⟩)
  · exact .inr (.inr ⟨h, key 255 (by omega) e⟩)
set_option maxHeartbeats 2000000 in
theorem rread_any (A : Option Addr) (n cap B : Nat) (bs : List UInt8) (w : World) (hl : bs.length = n) (hc : n ≤ cap) (hm : cap ≤ maxLen) (hB : B ≤ w.heap.size) (h : BytesAt w B A bs) :
    Calls Tryd.prog 60 #[.slice A n cap] w fun r w' => r = .returned (readV bs) ∧ Below w.heap.size w w' := by
  unfold maxLen at hm
  subst hl
  cases bs with
  | nil =>
    rw [readV_of (x := 0) (m := 0) (e := 4) rfl]
    go_enter Tryd.func60, Tryd.ntmps60
    go_wp2
    refine bodyPost_ret (results_tmp3 rfl _ _ _) rfl ?_
    exact ⟨rfl, Below.refl _ _⟩
  | cons c r =>
    obtain ⟨q, off, rfl, _, c1⟩ := h.cell (i := 0) (by simp)
    rw [Nat.add_zero, List.getElem_cons_zero] at c1
    have h0 : (0 : Int) < ((c :: r).length : Int) := by simp
    have h0' : ((((c :: r).length : Nat) : Int) == 0) = false := by rw [beq_eq_false_iff_ne]; omega
    have hcl := c.toNat_lt
    have hwide := fun w => wide_any c.toNat hcl w
    rcases read_cases c r with ⟨hw, ⟨e1, e2, e3⟩, hr⟩ | ⟨m, hm8, hw, hcase, hres⟩
    · rw [readV_of hr]
      rw [hw] at hwide
      have HW := Lib.hid hwide
      clear hr h hw hwide e1 e2 e3
      generalize (c :: r).length = L at *
      go_enter Tryd.func60, Tryd.ntmps60
      go_wp2_with (go_at_call 81; refine (HW.out _).mono ?_; rintro e w' ⟨rfl, rfl⟩)
      refine bodyPost_ret (results_tmp3 rfl _ _ _) rfl ?_
      exact ⟨rfl, Below.refl _ _⟩
    · have hmid : BytesAt w B (some ⟨q, off + 1, none⟩) (r.take m) := BytesAt.mid h
      have htk : BytesAt w B (some ⟨q, off, none⟩) ((c :: r).take (m + 1)) := BytesAt.take h (m + 1)
      have hL : (c :: r).length = r.length + 1 := rfl
      have hcc := first_of hcase
      rw [hw] at hwide
      have HW := Lib.hid hwide
      have hm0 : ((m : Int) == 0) = false := by rw [beq_eq_false_iff_ne]; omega
      have hmm : m ≤ 8 := by omega
      clear h hw hcase hwide
      rcases hres with ⟨hs, hr⟩ | ⟨hs, hz, hr⟩ | ⟨hs, hz, hr⟩
      · rw [readV_of hr]
        rw [hL] at h0 h0' hc
        rw [hL]
        clear hr hL hmid htk hm8
        go_enter Tryd.func60, Tryd.ntmps60
        go_wp2_with (go_at_call 81; refine (HW.out _).mono ?_; rintro e w' ⟨rfl, rfl⟩)
        refine bodyPost_ret (results_tmp3 rfl _ _ _) rfl ?_
        exact ⟨rfl, Below.refl _ _⟩
      · have htl : (r.take m).length = m := by rw [List.length_take]; omega
        have htl2 : ((c :: r).take (m + 1)).length = m + 1 := by rw [List.length_take, List.length_cons]; omega
        have hget := rget_yes (some ⟨q, off + 1, none⟩) (cap - 1) B (r.take m) (by omega) w hmid
        rw [htl] at hget
        have hd : decide (Oct.var (Oct.val (r.take m)) = (c :: r).take (m + 1)) = true := decide_eq_true ((var_same hs hcc).2 hz)
        have hu := val_u64 (r.take m) (by omega)
        rw [readV_of hr]
        rw [hL] at h0 h0' hc
        rw [hL]
        have HG := Lib.hid hget
        have HD := Lib.hid hd
        clear hr hL hmid hget hz htl hm8 hd
        generalize (c :: r).take (m + 1) = t at *
        generalize Oct.val (r.take m) = x at *
        go_enter Tryd.func60, Tryd.ntmps60
        go_wp2_with (first
          | (go_at_call 81; refine (HW.out _).mono ?_; rintro e w' ⟨rfl, rfl⟩)
          | (go_at_call 58; refine HG.out.mono ?_; rintro e w' ⟨rfl, rfl⟩))
        have b1 : (0 : Int) ≤ 1 + (m : Int) := by omega
        have b2 : 1 + (m : Int) ≤ (cap : Int) := by omega
        have b3 : IntKind.i64.wrap (1 + (m : Int)) = 1 + (m : Int) := IntWalk.i64_in _ (by omega)
        have hvl : (Oct.var x).length ≤ 9 := by rw [Oct.var_length]; exact (Oct.size_pos x).2
        have ht1 : t.length = (1 + (m : Int)).toNat := by omega
        have HT := Lib.hid ht1
        clear ht1 htl2
        go_region_with (first
          | (go_at_call 82; refine (rvar_any x hu _).mono ?_; rintro e w1 ⟨v, rfl, hv, hb1⟩; obtain ⟨A1, cap1, rfl, _, hcap1, hv1, _⟩ := hv.at_)
          | (go_at_call 78; refine (same_any A1 (some ⟨q, off, none⟩) _ _ cap1 cap (Oct.var x) t w1 _ _ rfl HT.out (by omega) (by omega) hv1 (At.below (w := w.drew) htk (hb1.mono hB))).mono ?_; rintro e w2 ⟨rfl, nq, rfl⟩; rw [HD.out]))
        go_wp2_with fail
        refine bodyPost_ret (results_tmp3 rfl _ _ _) rfl ?_
        exact ⟨by first | rfl | (rw [show ((m + 1 : Nat) : Int) = 1 + (m : Int) by omega]; rfl), below_drewN (((Below.refl _ _).drew).trans hb1) _⟩
      · have htl : (r.take m).length = m := by rw [List.length_take]; omega
        have htl2 : ((c :: r).take (m + 1)).length = m + 1 := by rw [List.length_take, List.length_cons]; omega
        have hget := rget_yes (some ⟨q, off + 1, none⟩) (cap - 1) B (r.take m) (by omega) w hmid
        rw [htl] at hget
        have hd : decide (Oct.var (Oct.val (r.take m)) = (c :: r).take (m + 1)) = false := decide_eq_false (fun e => hz ((var_same hs hcc).1 e))
        have hu := val_u64 (r.take m) (by omega)
        rw [readV_of hr]
        rw [hL] at h0 h0' hc
        rw [hL]
        have HG := Lib.hid hget
        have HD := Lib.hid hd
        clear hr hL hmid hget hz htl hm8 hd
        generalize (c :: r).take (m + 1) = t at *
        generalize Oct.val (r.take m) = x at *
        go_enter Tryd.func60, Tryd.ntmps60
        go_wp2_with (first
          | (go_at_call 81; refine (HW.out _).mono ?_; rintro e w' ⟨rfl, rfl⟩)
          | (go_at_call 58; refine HG.out.mono ?_; rintro e w' ⟨rfl, rfl⟩))
        have b1 : (0 : Int) ≤ 1 + (m : Int) := by omega
        have b2 : 1 + (m : Int) ≤ (cap : Int) := by omega
        have b3 : IntKind.i64.wrap (1 + (m : Int)) = 1 + (m : Int) := IntWalk.i64_in _ (by omega)
        have hvl : (Oct.var x).length ≤ 9 := by rw [Oct.var_length]; exact (Oct.size_pos x).2
        have ht1 : t.length = (1 + (m : Int)).toNat := by omega
        have HT := Lib.hid ht1
        clear ht1 htl2
        go_region_with (first
          | (go_at_call 82; refine (rvar_any x hu _).mono ?_; rintro e w1 ⟨v, rfl, hv, hb1⟩; obtain ⟨A1, cap1, rfl, _, hcap1, hv1, _⟩ := hv.at_)
          | (go_at_call 78; refine (same_any A1 (some ⟨q, off, none⟩) _ _ cap1 cap (Oct.var x) t w1 _ _ rfl HT.out (by omega) (by omega) hv1 (At.below (w := w.drew) htk (hb1.mono hB))).mono ?_; rintro e w2 ⟨rfl, nq, rfl⟩; rw [HD.out]))
        go_wp2_with fail
        refine bodyPost_ret (results_tmp3 rfl _ _ _) rfl ?_
        exact ⟨by first | rfl | (rw [show ((m + 1 : Nat) : Int) = 1 + (m : Int) by omega]; rfl), below_drewN (((Below.refl _ _).drew).trans hb1) _⟩
end Go.Proofs.YtpacgblddeoheaaDoor
