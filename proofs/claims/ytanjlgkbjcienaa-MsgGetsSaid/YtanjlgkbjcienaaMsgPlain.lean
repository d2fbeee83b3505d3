/- Package msg: a body of fixed size. -/
import Derived.Test.YtanjlgkbjcienaaMsgList
import Derived.Test.YtanjlgkbjcienaaMsgChecked
import Derived.Test.YtanjlgkbjcienaaOct
import Derived.BigRegion
import Derived.Laws.BitsAllLaws
import Derived.Laws.BitsLemmas
namespace Go.Proofs.Ytanjlgkbjcienaa.M8
open Go.RowKit Go.Deep T7
set_option linter.unusedVariables false
set_option linter.unusedSimpArgs false
set_option maxRecDepth 100000
attribute [local go_sem ↓] Go.wp_at_zero Go.wp_at_succ

theorem or_byte32 (x k c : Nat) (hk : k < 4) (hc : c < 256) (hx : x < 256 ^ k) : bits .or .u32 (x : Int) (IntKind.u32.wrap ((c : Int) * 2 ^ (8 * k))) = ((x + 256 ^ k * c : Nat) : Int) := by
  have hp : (256 : Nat) ^ k = 2 ^ (8 * k) := by rw [Nat.pow_mul]
  have h8 : (256 : Nat) ^ (k + 1) ≤ 256 ^ 4 := Nat.pow_le_pow_right (by decide) (by omega)
  have hm : c * 256 ^ k ≤ 255 * 256 ^ k := Nat.mul_le_mul_right _ (by omega)
  rw [Nat.pow_succ] at h8
  have hlt : c * 256 ^ k < 4294967296 := by omega
  have e1 : ((c : Int) * 2 ^ (8 * k)) = ((c * 256 ^ k : Nat) : Int) := by rw [hp, Int.natCast_mul, Int.natCast_pow]; rfl
  rw [e1, IntKind.wrap_u32, show ((c * 256 ^ k : Nat) : Int) % 4294967296 = ((c * 256 ^ k : Nat) : Int) by omega]
  rw [u32_or_nat _ _ (by omega) hlt]
  congr 1
  rw [Nat.or_comm, Nat.mul_comm c, hp, ← Nat.two_pow_add_eq_or_of_lt (by rw [← hp]; exact hx)]
  omega
/-- hashes that lie above a block that changes -/
theorem hashes_kp {w w' : World} {G : Nat} {A : Option Addr} {l : List (List UInt8)} (h : HashesAt w w.heap.size A l) (hk : Kp (fun i => i = G) w w') (hA : ∀ a, A = some a → G < a.block) : HashesAt w' w'.heap.size A l := by
  intro i hi
  obtain ⟨b, o, vs, h1, h2, h3, h4⟩ := h i hi
  have hb : G < b := hA _ h1
  exact ⟨b, o, vs, h1, Nat.lt_of_lt_of_le h2 hk.size, h3, fun j hj => (hk.cell (p := ⟨b, _, none⟩) h2 (by show ¬ b = G; omega)).trans (h4 j hj)⟩
def errP (s : Msgs.Shape) (b : List UInt8) : Int := if b.length < Msgs.sizeOf s then 4 else if Msgs.sizeOf s < b.length then 5 else if s.most < Msgs.codeOf s b then 6 else 0
/-- what is left of a message into which a body was read -/
def PlainOut (w w' : World) (G : Nat) (k : Int) (s : Msgs.Shape) (b : List UInt8) (e : Ending) : Prop :=
  e = .returned (.int .i64 (errP s b)) ∧ Kp (fun i => i = G) w w' ∧ (errP s b = 0 → ∃ A' c', Bk w' G 32 (mCells k (Msgs.numOf s b) (Msgs.codeOf s b) (.slice A' s.ids c') 0 (.slice none 0 0) (.slice none 0 0)) ∧ s.ids ≤ c' ∧ c' ≤ maxLen ∧ HashesAt w' w'.heap.size A' (Msgs.hashes b s.ids) ∧ ∀ a, A' = some a → G < a.block)
set_option maxHeartbeats 8000000 in
theorem plain_any (s : Msgs.Shape) (hs : Msgs.Facts s) (hq : s.count = false) (k : Int) (G : Nat) (A : Option Addr) (L c B : Nat) (b : List UInt8) (w : World) (hG : Bk w G 32 (mCells k 0 0 (.slice none 0 0) 0 (.slice none 0 0) (.slice none 0 0)))
    (hl : b.length = L) (hc : L ≤ c) (hm : c ≤ maxLen) (hat : BytesAt w B A b) (hB : B ≤ w.heap.size) (hBG : B ≤ G) :
    Calls Try.prog 22 #[.pointer (some ⟨G, 0, none⟩), .agg (shapeCells s), .slice A L c] w fun e w' => PlainOut w w' G k s b e := by
  have h1 := hs.ids hq
  have h4 := hs.code
  have hn := hs.n
  have hmost := hs.most
  have hER := Lib.hid (show errP s b = if L < 32 * s.ids + s.code + s.n then 4 else if 32 * s.ids + s.code + s.n < L then 5 else if s.most < Msgs.codeOf s b then 6 else 0 by unfold errP Msgs.sizeOf; rw [hl])
  have HCO := Lib.hid (show Msgs.codeOf s b = Oct.val ((b.drop (32 * s.ids)).take s.code) from rfl)
  have HNO := Lib.hid (show Msgs.numOf s b = Oct.val ((b.drop (32 * s.ids + s.code)).take s.n) from rfl)
  have HSH := Lib.hid (shapeRow_of s)
  obtain ⟨cs, hcs⟩ : ∃ cs, cs = shapeCells s := ⟨_, rfl⟩
  rw [← hcs] at HSH ⊢
  obtain ⟨si, hsi0⟩ : ∃ si, si = s.ids := ⟨_, rfl⟩
  obtain ⟨sn, hsn0⟩ : ∃ sn, sn = s.n := ⟨_, rfl⟩
  obtain ⟨sc, hsc0⟩ : ∃ sc, sc = s.code := ⟨_, rfl⟩
  obtain ⟨sm, hsm0⟩ : ∃ sm, sm = s.most := ⟨_, rfl⟩
  rw [← hsi0] at h1 hER HCO HNO HSH
  rw [← hsn0] at hn hER HNO HSH
  rw [← hsc0] at h4 hmost hER HCO HNO HSH
  rw [← hsm0] at hmost hER HSH
  have HSI := Lib.hid hsi0
  clear hsi0 hsn0 hsc0 hsm0
  have HER := hER
  have HGL := hG.lt
  obtain ⟨w1, hw1⟩ : ∃ w1, w1 = w.alloc (.cells cs 52) := ⟨_, rfl⟩
  have HS1 := Lib.hid (show Bk w1 w.heap.size 52 cs by rw [hw1]; exact Bk.new _ _ _)
  have HG1 := Lib.hid (show Bk w1 G 32 (mCells k 0 0 (.slice none 0 0) 0 (.slice none 0 0) (.slice none 0 0)) by rw [hw1]; exact hG.alloc _)
  have HB1 := Lib.hid (show Below w.heap.size w w1 by rw [hw1]; exact Joins.below_alloc1 _ _)
  have HA1 := Lib.hid (show BytesAt w1 B A b from At.below hat (HB1.out.mono hB))
  have HL := Lib.hid hl
  have HMX := Lib.hid hm
  obtain ⟨g, hg⟩ : ∃ g, g = w.heap.size := ⟨_, rfl⟩
  rw [← hg] at HS1
  have HG := Lib.hid hg
  have hgG : G < g := by omega
  have hgw : w.heap.size ≤ g := by omega
  have HZ1 := Lib.hid (show w1.heap.size = g + 1 by rw [hw1, hg]; simp)
  have s1 : w1.cell? ⟨g, 1, none⟩ = some (.int .i64 (sc : Int)) := by rw [HS1.out.cell, HSH.out]; rfl
  have s2 : w1.cell? ⟨g, 2, none⟩ = some (.int .i64 (sn : Int)) := by rw [HS1.out.cell, HSH.out]; rfl
  have s4 : w1.cell? ⟨g, 4, none⟩ = some (.int .i64 (si : Int)) := by rw [HS1.out.cell, HSH.out]; rfl
  unfold maxLen at hm
  have hsi : (si : Int) ≤ 1 := by omega
  have hsc : (sc : Int) ≤ 4 := by omega
  have hsn : (sn : Int) ≤ 8 := by omega
  clear hat hl hcs hn hG
  have hKP : ∀ W, Below w.heap.size w W → Kp (fun i => i = G) w W := fun W h => (Kp.of_below (S := fun _ => False) h).mono fun _ _ h => h.elim
  rcases Nat.lt_or_ge L (32 * si + sc + sn) with q1 | q1
  · rw [if_pos q1] at hER
    have q1' : (L : Int) < 32 * (si : Int) + (sc : Int) + (sn : Int) := by omega
    have HX := Lib.hid hER.out
    clear hER HER
    go_enter Try.func22, Try.ntmps22
    go_upto_region 1 with (fail)
    rw [← hw1, ← hg]
    clear hw1 hg
    go_wp2_with fail
    go_ret
    exact ⟨by rw [HX.out]; rfl, hKP _ HB1.out, fun h => by rw [HX.out] at h; cases h⟩
  rw [if_neg (by omega)] at hER
  have q1' : ¬ (L : Int) < 32 * (si : Int) + (sc : Int) + (sn : Int) := by omega
  rcases Nat.lt_or_ge (32 * si + sc + sn) L with q2 | q2
  · rw [if_pos q2] at hER
    have q2' : 32 * (si : Int) + (sc : Int) + (sn : Int) < (L : Int) := by omega
    have HX := Lib.hid hER.out
    clear hER HER
    go_enter Try.func22, Try.ntmps22
    go_upto_region 1 with (fail)
    rw [← hw1, ← hg]
    clear hw1 hg
    go_wp2_with fail
    go_ret
    exact ⟨by rw [HX.out]; rfl, hKP _ HB1.out, fun h => by rw [HX.out] at h; cases h⟩
  rw [if_neg (by omega)] at hER
  have q2' : ¬ 32 * (si : Int) + (sc : Int) + (sn : Int) < (L : Int) := by omega
  have hLL : L = 32 * si + sc + sn := by omega
  have HLS := Lib.hid (fun (h32 : 32 * 1 ≤ L) => list_any A L c B 1 b w1 HL.out hc HMX.out HA1.out (by rw [HZ1.out]; omega) h32 (by omega))
  have f2 := HG1.out.frozen 2
  have f3 := HG1.out.frozen 3
  have hLL' : L ≤ 32 * si + sc + sn := by omega
  have hLL2 : 32 * si + sc + sn ≤ L := by omega
  have HHL := Lib.hid hLL
  obtain ⟨rest, hrest⟩ : ∃ rest, rest = b.drop (32 * si) := ⟨_, rfl⟩
  have HRL := Lib.hid (show rest.length = sc + sn by rw [hrest, List.length_drop, HL.out]; omega)
  have HCO1 := Lib.hid (show Msgs.codeOf s b = Oct.val (rest.take sc) by rw [HCO.out, hrest])
  have HNO1 := Lib.hid (show Msgs.numOf s b = Oct.val ((rest.drop sc).take sn) by rw [HNO.out, hrest, List.drop_drop])
  have HRE := Lib.hid hrest
  clear hrest HCO HNO
  clear hLL
  go_enter Try.func22, Try.ntmps22
  go_upto_region 1 with (fail)
  rw [← hw1, ← hg]
  clear hw1 hg
  have hsi01 : si = 0 ∨ si = 1 := by omega
  rcases hsi01 with hsi0 | hsi0
  focus
    subst hsi0
    go_upto_region 8 with (fail)
    obtain ⟨w3, hw3⟩ : ∃ w3, w3 = w1 := ⟨_, rfl⟩
    obtain ⟨A2, hA2⟩ : ∃ A2, A2 = A := ⟨_, rfl⟩
    obtain ⟨r2, hr2⟩ : ∃ r2, r2 = L := ⟨_, rfl⟩
    obtain ⟨c2, hc2⟩ : ∃ c2, c2 = c := ⟨_, rfl⟩
    obtain ⟨I, hI⟩ : ∃ I : Value, I = .slice none 0 0 := ⟨_, rfl⟩
    have HG3 := Lib.hid (show Bk w3 G 32 (mCells k 0 0 I 0 (.slice none 0 0) (.slice none 0 0)) by rw [hw3, hI]; exact HG1.out)
    have HS3 := Lib.hid (show Bk w3 g 52 cs by rw [hw3]; exact HS1.out)
    have HA3 := Lib.hid (show BytesAt w3 B A2 rest by rw [hw3, hA2, HRE.out]; simpa using HA1.out)
    have HK3 := Lib.hid (show Kp (fun i => i = G) w w3 by rw [hw3]; exact hKP _ HB1.out)
    have HI3 := Lib.hid (show ∃ AI cI, I = .slice AI s.ids cI ∧ s.ids ≤ cI ∧ cI ≤ maxLen ∧ HashesAt w3 w3.heap.size AI (Msgs.hashes b s.ids) ∧ ∀ a, AI = some a → G < a.block by rw [← HSI.out]; exact ⟨none, 0, hI, Nat.le_refl _, by simp [maxLen], fun i hi => by simp [Msgs.hashes] at hi, fun a ha => by cases ha⟩)
    have hr2' : r2 = sc + sn := by omega
    have hrc2 : r2 ≤ c2 := by omega
    have hz3 : g + 1 ≤ w3.heap.size := by rw [hw3, HZ1.out]; exact Nat.le_refl _
    rw [← hw3, ← hA2, ← hr2, ← hc2]
    clear hw3 hA2 hr2 hc2 hI HG1 HS1 HA1 HB1 HLS f2 f3 s1 s2 s4
  rotate_left
  focus
    subst hsi0
    go_wp2_with fail
    refine (HLS.out (by omega)).mono ?_
    rintro e w2 ⟨A2, r2, c2, rfl, hr2'', hrc2, hcm2, ha2, hh2, hb2⟩
    have hr2' : r2 = sc + sn := by omega
    rw [HZ1.out] at hb2 hh2
    have HG2 := Lib.hid (HG1.out.below hb2 (by omega))
    have HS2 := Lib.hid (HS1.out.below hb2 (by omega))
    have HB2 := Lib.hid (HB1.out.trans (hb2.mono (by omega)))
    have HA2 := Lib.hid ha2
    have HH2 := Lib.hid hh2
    have f3' := HG2.out.frozen 3
    have c3' : w2.cell? ⟨G, 3, none⟩ = some (.slice none 0 0) := (HG2.out.cell 3).trans rfl
    have hz2 := hb2.size
    rw [HZ1.out] at hz2
    clear hb2 hh2 ha2
    go_upto_region 8 with (fail)
    obtain ⟨I, hI⟩ : ∃ I : Value, I = .slice (some ⟨w1.heap.size, 0, none⟩) 1 1 := ⟨_, rfl⟩
    obtain ⟨w3, hw3⟩ : ∃ w3, w3 = w2.setCell ⟨G, 3, none⟩ I := ⟨_, rfl⟩
    have HG3 := Lib.hid (show Bk w3 G 32 (mCells k 0 0 I 0 (.slice none 0 0) (.slice none 0 0)) by rw [hw3]; exact HG2.out.set 3 I)
    have HS3 := Lib.hid (show Bk w3 g 52 cs by rw [hw3]; exact HS2.out.far (p := ⟨G, 3, none⟩) (by show g ≠ G; omega) I)
    have k23 : Kp (fun i => i = G) w2 w3 := by rw [hw3]; exact kp_cell1 _ _ _ _
    have HA3 := Lib.hid (show BytesAt w3 B A2 rest by rw [HRE.out]; exact At.kp HA2.out k23 (by omega) (fun i hi e => by omega))
    have HK3 := Lib.hid (show Kp (fun i => i = G) w w3 from (hKP _ HB2.out).trans k23)
    have HI3 := Lib.hid (show ∃ AI cI, I = .slice AI s.ids cI ∧ s.ids ≤ cI ∧ cI ≤ maxLen ∧ HashesAt w3 w3.heap.size AI (Msgs.hashes b s.ids) ∧ ∀ a, AI = some a → G < a.block by
      rw [← HSI.out]
      exact ⟨some ⟨w1.heap.size, 0, none⟩, 1, by rw [hI], Nat.le_refl _, by simp [maxLen], by rw [HZ1.out]; exact hashes_kp HH2.out k23 (fun a ha => by cases ha; show G < g + 1; omega), fun a ha => by cases ha; show G < w1.heap.size; rw [HZ1.out]; omega⟩)
    have hz3 : g + 1 ≤ w3.heap.size := by have := k23.size; omega
    rw [← hI, ← hw3]
    clear hw3 hI HG1 HS1 HA1 HB1 HLS f2 f3 s1 s2 s4 hr2'' HG2 HS2 HB2 HA2 HH2 f3' c3' hz2 k23
  all_goals
    clear HL HHL HZ1 hLL' hLL2
    have hr3 : sc + sn ≤ r2 := by omega
    have HR2 := Lib.hid hr2'
    clear hr2'
    have s1 : w3.cell? ⟨g, 1, none⟩ = some (.int .i64 (sc : Int)) := by rw [HS3.out.cell, HSH.out]; rfl
    go_wp2_with fail
    go_loopw [42] (fun i wr => ∃ j : Nat, j ≤ sc ∧ i = .int .i64 (j : Int) ∧ Hid (Bk wr G 32 (mCells k 0 (Oct.val (rest.take j)) I 0 (.slice none 0 0) (.slice none 0 0))) ∧ Hid (Kp (fun i => i = G) w3 wr)) (fun i _ => sc - (intOf i).toNat)
    case atStart => exact ⟨0, Nat.zero_le _, rfl, HG3, Lib.hid (Kp.refl _ _)⟩
    case round =>
      obtain ⟨j, hj, rfl, hgb, hkp⟩ := hrel
      by_cases hlt : j < sc
      · have hjr : j < rest.length := by rw [HRL.out]; omega
        have HAR := At.kp HA3.out hkp.out (by omega) (fun i hi e => by omega)
        obtain ⟨bb, off, rfl, hbB, hcell⟩ := BytesAt.cell HAR hjr
        have hx1 := rest[j].toNat_lt
        have hx2 := Oct.val_lt (rest.take j)
        rw [List.length_take, Nat.min_eq_left (by omega)] at hx2
        have hor := or_byte32 (Oct.val (rest.take j)) j rest[j].toNat (by omega) hx1 hx2
        rw [← val_take rest j hjr] at hor
        rw [IntKind.wrap_u32] at hor
        have HOR := Lib.hid hor
        clear hor hx2 HAR
        generalize rest[j] = cb at *
        generalize Oct.val (rest.take j) = x at *
        have m2 : wr.cell? ⟨G, 2, none⟩ = some (.int .u32 (x : Int)) := (hgb.out.cell 2).trans rfl
        have fr2 := hgb.out.frozen 2
        have hne : bb ≠ G := by omega
        have i1 : (0 : Int) ≤ (j : Int) := by omega
        have i2 : (j : Int) < (r2 : Int) := by omega
        have HGB := hgb
        clear s1 hgb
        go_wp2_with fail
        go_region
        go_wp2_with fail
        go_roundw
        case rel =>
          refine ⟨j + 1, by omega, by go_num, Lib.hid ?_, Lib.hid ((hkp.out.trans (kp_cell1 _ _ _ _)).drew)⟩
          rw [HOR.out]
          exact (HGB.out.set 2 _).drew
        case measure => simp [intOf]; omega
      · obtain rfl : sc = j := by omega
        have HGB := hgb
        have hx2 := Oct.val_lt (rest.take sc)
        rw [← HCO1.out] at HGB hx2
        have hzr : g + 1 ≤ wr.heap.size := by have := hkp.out.size; omega
        have HSR := Lib.hid (HS3.out.kp hkp.out (by omega))
        have m2 : wr.cell? ⟨G, 2, none⟩ = some (.int .u32 ((Msgs.codeOf s b : Nat) : Int)) := (HGB.out.cell 2).trans rfl
        have t3 : wr.cell? ⟨g, 3, none⟩ = some (.int .u32 (sm : Int)) := by rw [HSR.out.cell, HSH.out]; rfl
        have hcb : Msgs.codeOf s b < 4294967296 := by
          have h256 : 256 ^ (rest.take sc).length ≤ 256 ^ 4 := Nat.pow_le_pow_right (by decide) (by rw [List.length_take]; omega)
          omega
        clear hx2 s1 hgb
        rcases Nat.lt_or_ge sm (Msgs.codeOf s b) with q3 | q3
        · have q3' : (sm : Int) < ((Msgs.codeOf s b : Nat) : Int) := by omega
          have HX := Lib.hid (show errP s b = 6 by rw [hER.out, if_pos q3])
          generalize Msgs.codeOf s b = code at *
          clear hER HER
          go_wp2_with fail
          go_region
          go_wp2_with fail
          go_ret
          exact ⟨by rw [HX.out]; rfl, (HK3.out.trans hkp.out).drew, fun h => by rw [HX.out] at h; cases h⟩
        · have q3' : ¬ (sm : Int) < ((Msgs.codeOf s b : Nat) : Int) := by omega
          have HX := Lib.hid (show errP s b = 0 by rw [hER.out, if_neg (by omega)])
          have HCZ := Lib.hid (Eq.refl (Msgs.codeOf s b))
          generalize hcode : Msgs.codeOf s b = code at *
          have HCODE := Lib.hid hcode
          clear hER HER hcode HCZ HCO1
          have t2 : wr.drew.cell? ⟨g, 2, none⟩ = some (.int .i64 (sn : Int)) := by
            show wr.cell? _ = _
            rw [HSR.out.cell, HSH.out]; rfl
          have HKP1 := hkp
          have HG5 := HGB
          go_wp2_with fail
          go_region
          go_wp2_with fail
          obtain ⟨l, hl⟩ : ∃ l, l = rest.drop sc := ⟨_, rfl⟩
          have HLD := Lib.hid hl
          have HLL := Lib.hid (show l.length = sn by rw [hl, List.length_drop, HRL.out]; omega)
          rw [← hl] at HNO1
          clear hl m2 t3 t2 hkp HGB hzr q3 q3' hcb
          go_loopw [71] (fun i wr => ∃ j : Nat, j ≤ sn ∧ i = .int .i64 (j : Int) ∧ Hid (Bk wr G 32 (mCells k (Oct.val (l.take j)) code I 0 (.slice none 0 0) (.slice none 0 0))) ∧ Hid (Kp (fun i => i = G) w3 wr)) (fun i _ => sn - (intOf i).toNat)
          case atStart => exact ⟨0, Nat.zero_le _, rfl, Lib.hid (by simpa [Oct.val] using HG5.out.drew), Lib.hid HKP1.out.drew⟩
          case round =>
            obtain ⟨j, hj2, rfl, hgb, hkp⟩ := hrel
            by_cases hlt2 : j < sn
            · have hjr : sc + j < rest.length := by rw [HRL.out]; omega
              have hjl : j < l.length := by rw [HLL.out]; exact hlt2
              have HAR := At.kp HA3.out hkp.out (by omega) (fun i hi e => by omega)
              obtain ⟨bb, off, rfl, hbB, hcell⟩ := BytesAt.cell HAR hjr
              have hlj : rest[sc + j] = l[j] := by
                have := HLD.out
                subst this
                rw [List.getElem_drop]
              rw [hlj] at hcell
              have hx1 := l[j].toNat_lt
              have hx2 := Oct.val_lt (l.take j)
              rw [List.length_take, Nat.min_eq_left (by omega)] at hx2
              have hor := or_byte (Oct.val (l.take j)) j l[j].toNat (by omega) hx1 hx2
              rw [← val_take l j hjl] at hor
              have HOR := Lib.hid hor
              clear hor hx2 HAR hlj
              generalize l[j] = cb at *
              generalize Oct.val (l.take j) = x at *
              have hzr2 : g + 1 ≤ wr.heap.size := by have := hkp.out.size; omega
              have HSR2 := Lib.hid (HS3.out.kp hkp.out (by omega))
              have m1 : wr.cell? ⟨G, 1, none⟩ = some (.int .u64 (x : Int)) := (hgb.out.cell 1).trans rfl
              have t1 : wr.cell? ⟨g, 1, none⟩ = some (.int .i64 (sc : Int)) := by rw [HSR2.out.cell, HSH.out]; rfl
              have fr1 := hgb.out.frozen 1
              have hne : bb ≠ G := by omega
              have hne2 : g ≠ G := by omega
              have i0 : (0 : Int) ≤ (sc : Int) := by omega
              have i1 : (0 : Int) ≤ (j : Int) := by omega
              have i2 : (sc : Int) + (j : Int) < (r2 : Int) := by omega
              have i3 : (0 : Int) ≤ (sc : Int) + (j : Int) := by omega
              have i4 : ((sc : Int) + (j : Int)).toNat = sc + j := by omega
              have HGB := hgb
              clear hgb
              go_wp2_with fail
              go_region
              go_wp2_with fail
              go_roundw
              case rel =>
                refine ⟨j + 1, by omega, by go_num, Lib.hid ?_, Lib.hid ((hkp.out.trans (kp_cell1 _ _ _ _)).drew)⟩
                rw [HOR.out]
                exact (HGB.out.set 1 _).drew
              case measure => simp [intOf]; omega
            · obtain rfl : sn = j := by omega
              have HTK := Lib.hid (show l.take sn = l from List.take_of_length_le (by rw [HLL.out]; exact Nat.le_refl _))
              go_wp2_with fail
              go_ret
              refine ⟨by rw [HX.out]; rfl, HK3.out.trans hkp.out, fun _ => ?_⟩
              obtain ⟨AI, cI, hIe, h5, h6, h7, h9⟩ := HI3.out
              have h8 := hgb.out
              rw [← HNO1.out, hIe, ← HCODE.out] at h8
              exact ⟨AI, cI, h8, h5, h6, hashes_kp h7 hkp.out h9, h9⟩
end Go.Proofs.Ytanjlgkbjcienaa.M8
