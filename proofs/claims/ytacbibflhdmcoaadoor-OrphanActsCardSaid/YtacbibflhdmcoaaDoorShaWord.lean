/- Package sha: the numbers of a schedule, of which sixteen are kept. -/
import Derived.Test.YtacbibflhdmcoaaDoorShaBits
import Derived.BigRegion
namespace Go.Proofs.YtacbibflhdmcoaaDoor.Sha
/-- the sixteen numbers behind the t-th -/
def ringNext (r : List UInt32) (t : Nat) : List UInt32 :=
  if t < 16 then r else r.set (t % 16) (r.getD (t % 16) 0 + (sig1 (r.getD ((t - 2) % 16) 0) + r.getD ((t - 7) % 16) 0 + sig0 (r.getD ((t - 15) % 16) 0)))
end Go.Proofs.YtacbibflhdmcoaaDoor.Sha
namespace Go.Proofs.YtacbibflhdmcoaaDoor
open Go.RowKit Go.Deep
set_option linter.unusedVariables false
set_option linter.unusedSimpArgs false
set_option maxRecDepth 100000
attribute [local go_sem ↓] Go.wp_at_zero Go.wp_at_succ
def u32Arr (l : List UInt32) : Array Value := (l.map u32V).toArray
theorem Bk.u32 {w : World} {g t : Nat} {l : List UInt32} (h : Bk w g t (u32Arr l)) {i : Nat} (hi : i < l.length) : w.cell? ⟨g, i, none⟩ = some (.int .u32 ((l.getD i 0).toNat : Int)) := by
  rw [h.cell]; simp [u32Arr, hi, u32V]
theorem Bk.setU32 {w : World} {g t : Nat} {l : List UInt32} (h : Bk w g t (u32Arr l)) (k : Nat) (c : UInt32) : Bk (w.setCell ⟨g, k, none⟩ (.int .u32 (c.toNat : Int))) g t (u32Arr (l.set k c)) := by
  have := h.set k (u32V c)
  rwa [show (u32Arr l).setIfInBounds k (u32V c) = u32Arr (l.set k c) by simp [u32Arr, List.map_set]] at this
theorem and15 (n m : Nat) (z : Int) (hz : z = (n : Int)) (hn : n < 1000) (hm : n % 16 = m) : bits .and .i64 z 15 = (m : Int) := by
  subst hz
  have := (bits_nat .i64 63 (by decide) (fun n h0 h1 => by rw [IntKind.wrap_i64]; omega) n 15 (by omega) (by decide)).1
  rw [show ((15 : Nat) : Int) = 15 by rfl] at this
  rw [this, show 15 = 2 ^ 4 - 1 by rfl, Nat.and_two_pow_sub_one_eq_mod, hm]
theorem u_add4 (a b c d : UInt32) : ((a.toNat : Int) + ((b.toNat : Int) + (c.toNat : Int) + (d.toNat : Int))) % 4294967296 = ((a + (b + c + d)).toNat : Int) := by
  simp only [UInt32.toNat_add]; omega
theorem word_low (g t : Nat) (r : List UInt32) (w : World) (hr : r.length = 16) (ht : t < 16) (h : Bk w g 136 (u32Arr r)) :
    Calls Tryd.prog 81 #[.pointer (some ⟨g, 0, none⟩), .int .i64 (t : Int)] w fun e w' => e = .returned (.int .u32 ((r.getD t 0).toNat : Int)) ∧ w = w' := by
  have c0 := h.u32 (i := t) (by omega)
  have e0 : bits .and .i64 (t : Int) 15 = (t : Int) := and15 t t _ rfl (by omega) (by omega)
  generalize r.getD t 0 = x at *
  clear h hr
  go_enter Tryd.func81, Tryd.ntmps81
  go_wp2
  go_ret
  exact ⟨rfl, rfl⟩
theorem word_high (g t : Nat) (r : List UInt32) (w : World) (hr : r.length = 16) (h16 : 16 ≤ t) (ht : t < 64) (h : Bk w g 136 (u32Arr r)) :
    Calls Tryd.prog 81 #[.pointer (some ⟨g, 0, none⟩), .int .i64 (t : Int)] w fun e w' => e = .returned (.int .u32 (((Sha.ringNext r t).getD (t % 16) 0).toNat : Int)) ∧ Bk w' g 136 (u32Arr (Sha.ringNext r t)) ∧ Kp (fun i => i = g) w w' := by
  have hgl := h.lt
  obtain ⟨i0, hi0⟩ : ∃ i, i = t % 16 := ⟨_, rfl⟩
  obtain ⟨i2, hi2⟩ : ∃ i, i = (t - 2) % 16 := ⟨_, rfl⟩
  obtain ⟨i7, hi7⟩ : ∃ i, i = (t - 7) % 16 := ⟨_, rfl⟩
  obtain ⟨i15, hi15⟩ : ∃ i, i = (t - 15) % 16 := ⟨_, rfl⟩
  have l0 : i0 < 16 := by omega
  have l2 : i2 < 16 := by omega
  have l7 : i7 < 16 := by omega
  have l15 : i15 < 16 := by omega
  have hne : i0 ≠ i7 := by omega
  have c0 := h.u32 (i := i0) (by omega)
  have c2 := h.u32 (i := i2) (by omega)
  have c7 := h.u32 (i := i7) (by omega)
  have c15 := h.u32 (i := i15) (by omega)
  have f0 : w.frozen? ⟨g, i0, none⟩ = false := h.frozen i0
  have e0 : bits .and .i64 (t : Int) 15 = (i0 : Int) := and15 t i0 _ rfl (by omega) hi0.symm
  have e2 : bits .and .i64 ((t : Int) - 2) 15 = (i2 : Int) := and15 (t - 2) i2 _ (by omega) (by omega) hi2.symm
  have e7 : bits .and .i64 ((t : Int) - 7) 15 = (i7 : Int) := and15 (t - 7) i7 _ (by omega) (by omega) hi7.symm
  have e15 : bits .and .i64 ((t : Int) - 15) 15 = (i15 : Int) := and15 (t - 15) i15 _ (by omega) (by omega) hi15.symm
  have HE := Lib.hid (show Sha.ringNext r t = r.set i0 (r.getD i0 0 + (Sha.sig1 (r.getD i2 0) + r.getD i7 0 + Sha.sig0 (r.getD i15 0))) by unfold Sha.ringNext; rw [if_neg (by omega), hi0, hi2, hi7, hi15])
  have HB := Lib.hid (h.setU32 i0 (r.getD i0 0 + (Sha.sig1 (r.getD i2 0) + r.getD i7 0 + Sha.sig0 (r.getD i15 0))))
  have HR := Lib.hid hr
  have HI := Lib.hid hi0
  obtain ⟨x0, hx0⟩ : ∃ x, x = r.getD i0 0 := ⟨_, rfl⟩
  obtain ⟨x2, hx2⟩ : ∃ x, x = r.getD i2 0 := ⟨_, rfl⟩
  obtain ⟨x7, hx7⟩ : ∃ x, x = r.getD i7 0 := ⟨_, rfl⟩
  obtain ⟨x15, hx15⟩ : ∃ x, x = r.getD i15 0 := ⟨_, rfl⟩
  rw [← hx0] at c0 HE HB
  rw [← hx2] at c2 HE HB
  rw [← hx7] at c7 HE HB
  rw [← hx15] at c15 HE HB
  clear h hr hi0 hi2 hi7 hi15 hx0 hx2 hx7 hx15
  have b0 : (0 : Int) ≤ (i0 : Int) ∧ (i0 : Int) < 16 := by omega
  have b2 : (0 : Int) ≤ (i2 : Int) ∧ (i2 : Int) < 16 := by omega
  have b7 : (0 : Int) ≤ (i7 : Int) ∧ (i7 : Int) < 16 := by omega
  have b15 : (0 : Int) ≤ (i15 : Int) ∧ (i15 : Int) < 16 := by omega
  obtain ⟨b01, b02⟩ := b0
  obtain ⟨b21, b22⟩ := b2
  obtain ⟨b71, b72⟩ := b7
  obtain ⟨b151, b152⟩ := b15
  go_enter Tryd.func81, Tryd.ntmps81
  go_wp2_with fail
  go_quiet (fail)
  go_wp2_with fail
  refine (rot17 _ _).mono ?_
  rintro e w' ⟨rfl, rfl⟩
  go_wp2_with fail
  refine (rot19 _ _).mono ?_
  rintro e w' ⟨rfl, rfl⟩
  go_wp2_with fail
  refine (rot7 _ _).mono ?_
  rintro e w' ⟨rfl, rfl⟩
  go_wp2_with fail
  refine (rot18 _ _).mono ?_
  rintro e w' ⟨rfl, rfl⟩
  go_wp2_with fail
  simp only [u_xor, u_shr3, u_shr10]
  have HY1 := Lib.hid (show Sha.sig1 x2 = Sha.rotr x2 17 ^^^ Sha.rotr x2 19 ^^^ x2 >>> 10 from rfl)
  have HY2 := Lib.hid (show Sha.sig0 x15 = Sha.rotr x15 7 ^^^ Sha.rotr x15 18 ^^^ x15 >>> 3 from rfl)
  generalize Sha.rotr x2 17 ^^^ Sha.rotr x2 19 ^^^ x2 >>> 10 = y1 at HY1 ⊢
  generalize Sha.rotr x15 7 ^^^ Sha.rotr x15 18 ^^^ x15 >>> 3 = y2 at HY2 ⊢
  rw [HY1.out, HY2.out] at HE HB
  have hgx := HB.out.cell i0
  have w7 : IntKind.i64.wrap ((t : Int) - 7) = (t : Int) - 7 := IntWalk.i64_in _ (by omega)
  clear HY1 HY2 c2 c15 e2 e15
  have d0 : (w.drewN nq).cell? ⟨g, i0, none⟩ = some (.int .u32 (x0.toNat : Int)) := c0
  have d7 : (w.drewN nq).cell? ⟨g, i7, none⟩ = some (.int .u32 (x7.toNat : Int)) := c7
  have df : (w.drewN nq).frozen? ⟨g, i0, none⟩ = false := f0
  have HB2 := Lib.hid (show Bk ((w.drewN nq).setCell ⟨g, i0, none⟩ (.int .u32 ((x0 + (y1 + x7 + y2)).toNat : Int))) g 136 _ from HB.out)
  have HK := Lib.hid (show Kp (fun i => i = g) w ((w.drewN nq).setCell ⟨g, i0, none⟩ (.int .u32 ((x0 + (y1 + x7 + y2)).toNat : Int))) from Kp.setCell (S := fun i => i = g) ((Kp.refl _ w).drewN nq) (fun _ => rfl) _)
  generalize w.drewN nq = w2 at *
  clear HB c0 c7 f0 hgx
  go_region
  go_wp2
  rw [u_add4]
  go_ret
  refine ⟨ret_u32 ?_, ?_, HK.out.drew⟩
  · rw [HE.out, ← HI.out]
    have := HR.out
    simp [this, l0]
  · rw [HE.out]; exact HB2.out.drew
end Go.Proofs.YtacbibflhdmcoaaDoor
