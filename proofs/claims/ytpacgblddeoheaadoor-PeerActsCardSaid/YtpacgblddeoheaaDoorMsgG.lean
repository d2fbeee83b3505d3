/- Package msg: Get and Put. -/
import Derived.Test.YtpacgblddeoheaaDoorMsgM
import Derived.Test.YtpacgblddeoheaaDoorMsgS
import Derived.Test.YtpacgblddeoheaaDoorOct
import Derived.BigRegion
import Derived.Laws.BitsAllLaws
import Derived.Laws.BitsLemmas
import Derived.Test.YtpacgblddeoheaaDoorTxWhole
import Derived.Test.YtpacgblddeoheaaDoorTxPut
import Derived.Test.YtpacgblddeoheaaDoorOct2
import Derived.Test.YtpacgblddeoheaaDoorTxGuard
/- MsgGP, merged: MsgPlain, MsgGet, MsgPut. -/
/- Package msg: a body of fixed size. -/
namespace Go.Proofs.YtpacgblddeoheaaDoor.M8
open Go.RowKit Go.Deep T7
set_option linter.unusedVariables false
set_option linter.unusedSimpArgs false
set_option maxRecDepth 100000
attribute [local go_sem ↓] Go.wp_at_zero Go.wp_at_succ

theorem or_byte32 (x k c : Nat) (hk : k < 4) (hc : c < 256) (hx : x < 256 ^ k) : bits .or .u32 (x : Int) (IntKind.u32.wrap ((c : Int) * 2 ^ (8 * k))) = ((x + 256 ^ k * c : Nat) : Int) := by
  have hp : (256 : Nat) ^ k = 2 ^ (8 * k) := by rw [Nat.pow_mul]
  have h8 : (256 : Nat) ^ (k + 1) ≤ 256 ^ 4 := Nat.pow_le_pow_right (by decide) (by omega)
  have hm : c * 256 ^ k ≤ 255 * 256 ^ k := Nat.mul_le_mul_right _ (by omega)
  rw [Nat.pow_succ] at h8
  have hlt : c * 256 ^ k < 4294967296 := by omega
  have e1 : ((c : Int) * 2 ^ (8 * k)) = ((c * 256 ^ k : Nat) : Int) := by rw [hp, Int.natCast_mul, Int.natCast_pow]; rfl
  rw [e1, IntKind.wrap_u32, show ((c * 256 ^ k : Nat) : Int) % 4294967296 = ((c * 256 ^ k : Nat) : Int) by omega]
  rw [u32_or_nat _ _ (by omega) hlt]
  congr 1
  rw [Nat.or_comm, Nat.mul_comm c, hp, ← Nat.two_pow_add_eq_or_of_lt (by rw [← hp]; exact hx)]
  omega
/-- hashes that lie above a block that changes -/
theorem hashes_kp {w w' : World} {G : Nat} {A : Option Addr} {l : List (List UInt8)} (h : HashesAt w w.heap.size A l) (hk : Kp (fun i => i = G) w w') (hA : ∀ a, A = some a → G < a.block) : HashesAt w' w'.heap.size A l := by
  intro i hi
  obtain ⟨b, o, vs, h1, h2, h3, h4⟩ := h i hi
  have hb : G < b := hA _ h1
  exact ⟨b, o, vs, h1, Nat.lt_of_lt_of_le h2 hk.size, h3, fun j hj => (hk.cell (p := ⟨b, _, none⟩) h2 (by show ¬ b = G; omega)).trans (h4 j hj)⟩
theorem hashes_kpS {w w' : World} {S : Nat → Prop} {A : Option Addr} {l : List (List UInt8)} (h : HashesAt w w.heap.size A l) (hk : Kp S w w') (hA : ∀ a, A = some a → ¬ S a.block) : HashesAt w' w'.heap.size A l := by
  intro i hi
  obtain ⟨b, o, vs, h1, h2, h3, h4⟩ := h i hi
  exact ⟨b, o, vs, h1, Nat.lt_of_lt_of_le h2 hk.size, h3, fun j hj => (hk.cell (p := ⟨b, _, none⟩) h2 (show ¬ S b from hA _ h1)).trans (h4 j hj)⟩
def errP (s : Msgs.Shape) (b : List UInt8) : Int := if b.length < Msgs.sizeOf s then 4 else if Msgs.sizeOf s < b.length then 5 else if s.most < Msgs.codeOf s b then 6 else 0
/-- what is left of a message into which a body was read -/
def PlainOut (w w' : World) (G : Nat) (k : Int) (s : Msgs.Shape) (b : List UInt8) (e : Ending) : Prop :=
  e = .returned (.int .i64 (errP s b)) ∧ Kp (fun i => i = G) w w' ∧ (errP s b = 0 → ∃ A' c', Bk w' G 51 (mCells k (Msgs.numOf s b) (Msgs.codeOf s b) (.slice A' s.ids c') 0 (.slice none 0 0) (.slice none 0 0)) ∧ s.ids ≤ c' ∧ c' ≤ maxLen ∧ HashesAt w' w'.heap.size A' (Msgs.hashes b s.ids) ∧ ∀ a, A' = some a → G < a.block)
set_option maxHeartbeats 8000000 in
theorem plain_any (s : Msgs.Shape) (hs : Msgs.Facts s) (hq : s.count = false) (k : Int) (G : Nat) (A : Option Addr) (L c B : Nat) (b : List UInt8) (w : World) (hG : Bk w G 51 (mCells k 0 0 (.slice none 0 0) 0 (.slice none 0 0) (.slice none 0 0)))
    (hl : b.length = L) (hc : L ≤ c) (hm : c ≤ maxLen) (hat : BytesAt w B A b) (hB : B ≤ w.heap.size) (hBG : B ≤ G) :
    Calls Tryd.prog 77 #[.pointer (some ⟨G, 0, none⟩), .agg (shapeCells s), .slice A L c] w fun e w' => PlainOut w w' G k s b e := by
  have h1 := hs.ids hq
  have h4 := hs.code
  have hn := hs.n
  have hmost := hs.most
  have hER := Lib.hid (show errP s b = if L < 32 * s.ids + s.code + s.n then 4 else if 32 * s.ids + s.code + s.n < L then 5 else if s.most < Msgs.codeOf s b then 6 else 0 by unfold errP Msgs.sizeOf; rw [hl])
  have HCO := Lib.hid (show Msgs.codeOf s b = Oct.val ((b.drop (32 * s.ids)).take s.code) from rfl)
  have HNO := Lib.hid (show Msgs.numOf s b = Oct.val ((b.drop (32 * s.ids + s.code)).take s.n) from rfl)
  have HSH := Lib.hid (shapeRow_of s)
  obtain ⟨cs, hcs⟩ : ∃ cs, cs = shapeCells s := ⟨_, rfl⟩
  rw [← hcs] at HSH ⊢
  obtain ⟨si, hsi0⟩ : ∃ si, si = s.ids := ⟨_, rfl⟩
  obtain ⟨sn, hsn0⟩ : ∃ sn, sn = s.n := ⟨_, rfl⟩
  obtain ⟨sc, hsc0⟩ : ∃ sc, sc = s.code := ⟨_, rfl⟩
  obtain ⟨sm, hsm0⟩ : ∃ sm, sm = s.most := ⟨_, rfl⟩
  rw [← hsi0] at h1 hER HCO HNO HSH
  rw [← hsn0] at hn hER HNO HSH
  rw [← hsc0] at h4 hmost hER HCO HNO HSH
  rw [← hsm0] at hmost hER HSH
  have HSI := Lib.hid hsi0
  clear hsi0 hsn0 hsc0 hsm0
  have HER := hER
  have HGL := hG.lt
  obtain ⟨w1, hw1⟩ : ∃ w1, w1 = w.alloc (.cells cs 145) := ⟨_, rfl⟩
  have HS1 := Lib.hid (show Bk w1 w.heap.size 145 cs by rw [hw1]; exact Bk.new _ _ _)
  have HG1 := Lib.hid (show Bk w1 G 51 (mCells k 0 0 (.slice none 0 0) 0 (.slice none 0 0) (.slice none 0 0)) by rw [hw1]; exact hG.alloc _)
  have HB1 := Lib.hid (show Below w.heap.size w w1 by rw [hw1]; exact Joins.below_alloc1 _ _)
  have HA1 := Lib.hid (show BytesAt w1 B A b from At.below hat (HB1.out.mono hB))
  have HL := Lib.hid hl
  have HMX := Lib.hid hm
  obtain ⟨g, hg⟩ : ∃ g, g = w.heap.size := ⟨_, rfl⟩
  rw [← hg] at HS1
  have HG := Lib.hid hg
  have hgG : G < g := by omega
  have hgw : w.heap.size ≤ g := by omega
  have HZ1 := Lib.hid (show w1.heap.size = g + 1 by rw [hw1, hg]; simp)
  have s1 : w1.cell? ⟨g, 1, none⟩ = some (.int .i64 (sc : Int)) := by rw [HS1.out.cell, HSH.out]; rfl
  have s2 : w1.cell? ⟨g, 2, none⟩ = some (.int .i64 (sn : Int)) := by rw [HS1.out.cell, HSH.out]; rfl
  have s4 : w1.cell? ⟨g, 4, none⟩ = some (.int .i64 (si : Int)) := by rw [HS1.out.cell, HSH.out]; rfl
  unfold maxLen at hm
  have hsi : (si : Int) ≤ 1 := by omega
  have hsc : (sc : Int) ≤ 4 := by omega
  have hsn : (sn : Int) ≤ 8 := by omega
  clear hat hl hcs hn hG
  have hKP : ∀ W, Below w.heap.size w W → Kp (fun i => i = G) w W := fun W h => (Kp.of_below (S := fun _ => False) h).mono fun _ _ h => h.elim
  rcases Nat.lt_or_ge L (32 * si + sc + sn) with q1 | q1
  · rw [if_pos q1] at hER
    have q1' : (L : Int) < 32 * (si : Int) + (sc : Int) + (sn : Int) := by omega
    have HX := Lib.hid hER.out
    clear hER HER
    go_enter Tryd.func77, Tryd.ntmps77
    go_upto_region 1 with (fail)
    rw [← hw1, ← hg]
    clear hw1 hg
    go_wp2_with fail
    go_ret
    exact ⟨by rw [HX.out]; rfl, hKP _ HB1.out, fun h => by rw [HX.out] at h; cases h⟩
  rw [if_neg (by omega)] at hER
  have q1' : ¬ (L : Int) < 32 * (si : Int) + (sc : Int) + (sn : Int) := by omega
  rcases Nat.lt_or_ge (32 * si + sc + sn) L with q2 | q2
  · rw [if_pos q2] at hER
    have q2' : 32 * (si : Int) + (sc : Int) + (sn : Int) < (L : Int) := by omega
    have HX := Lib.hid hER.out
    clear hER HER
    go_enter Tryd.func77, Tryd.ntmps77
    go_upto_region 1 with (fail)
    rw [← hw1, ← hg]
    clear hw1 hg
    go_wp2_with fail
    go_ret
    exact ⟨by rw [HX.out]; rfl, hKP _ HB1.out, fun h => by rw [HX.out] at h; cases h⟩
  rw [if_neg (by omega)] at hER
  have q2' : ¬ 32 * (si : Int) + (sc : Int) + (sn : Int) < (L : Int) := by omega
  have hLL : L = 32 * si + sc + sn := by omega
  have HLS := Lib.hid (fun (h32 : 32 * 1 ≤ L) => list_any A L c B 1 b w1 HL.out hc HMX.out HA1.out (by rw [HZ1.out]; omega) h32 (by omega))
  have f2 := HG1.out.frozen 2
  have f3 := HG1.out.frozen 3
  have hLL' : L ≤ 32 * si + sc + sn := by omega
  have hLL2 : 32 * si + sc + sn ≤ L := by omega
  have HHL := Lib.hid hLL
  obtain ⟨rest, hrest⟩ : ∃ rest, rest = b.drop (32 * si) := ⟨_, rfl⟩
  have HRL := Lib.hid (show rest.length = sc + sn by rw [hrest, List.length_drop, HL.out]; omega)
  have HCO1 := Lib.hid (show Msgs.codeOf s b = Oct.val (rest.take sc) by rw [HCO.out, hrest])
  have HNO1 := Lib.hid (show Msgs.numOf s b = Oct.val ((rest.drop sc).take sn) by rw [HNO.out, hrest, List.drop_drop])
  have HRE := Lib.hid hrest
  clear hrest HCO HNO
  clear hLL
  go_enter Tryd.func77, Tryd.ntmps77
  go_upto_region 1 with (fail)
  rw [← hw1, ← hg]
  clear hw1 hg
  have hsi01 : si = 0 ∨ si = 1 := by omega
  rcases hsi01 with hsi0 | hsi0
  focus
    subst hsi0
    go_upto_region 8 with (fail)
    obtain ⟨w3, hw3⟩ : ∃ w3, w3 = w1 := ⟨_, rfl⟩
    obtain ⟨A2, hA2⟩ : ∃ A2, A2 = A := ⟨_, rfl⟩
    obtain ⟨r2, hr2⟩ : ∃ r2, r2 = L := ⟨_, rfl⟩
    obtain ⟨c2, hc2⟩ : ∃ c2, c2 = c := ⟨_, rfl⟩
    obtain ⟨I, hI⟩ : ∃ I : Value, I = .slice none 0 0 := ⟨_, rfl⟩
    have HG3 := Lib.hid (show Bk w3 G 51 (mCells k 0 0 I 0 (.slice none 0 0) (.slice none 0 0)) by rw [hw3, hI]; exact HG1.out)
    have HS3 := Lib.hid (show Bk w3 g 145 cs by rw [hw3]; exact HS1.out)
    have HA3 := Lib.hid (show BytesAt w3 B A2 rest by rw [hw3, hA2, HRE.out]; simpa using HA1.out)
    have HK3 := Lib.hid (show Kp (fun i => i = G) w w3 by rw [hw3]; exact hKP _ HB1.out)
    have HI3 := Lib.hid (show ∃ AI cI, I = .slice AI s.ids cI ∧ s.ids ≤ cI ∧ cI ≤ maxLen ∧ HashesAt w3 w3.heap.size AI (Msgs.hashes b s.ids) ∧ ∀ a, AI = some a → G < a.block by rw [← HSI.out]; exact ⟨none, 0, hI, Nat.le_refl _, by simp [maxLen], fun i hi => by simp [Msgs.hashes] at hi, fun a ha => by cases ha⟩)
    have hr2' : r2 = sc + sn := by omega
    have hrc2 : r2 ≤ c2 := by omega
    have hz3 : g + 1 ≤ w3.heap.size := by rw [hw3, HZ1.out]; exact Nat.le_refl _
    rw [← hw3, ← hA2, ← hr2, ← hc2]
    clear hw3 hA2 hr2 hc2 hI HG1 HS1 HA1 HB1 HLS f2 f3 s1 s2 s4
  rotate_left
  focus
    subst hsi0
    go_wp2_with fail
    refine (HLS.out (by omega)).mono ?_
    rintro e w2 ⟨A2, r2, c2, rfl, hr2'', hrc2, hcm2, ha2, hh2, hb2⟩
    have hr2' : r2 = sc + sn := by omega
    rw [HZ1.out] at hb2 hh2
    have HG2 := Lib.hid (HG1.out.below hb2 (by omega))
    have HS2 := Lib.hid (HS1.out.below hb2 (by omega))
    have HB2 := Lib.hid (HB1.out.trans (hb2.mono (by omega)))
    have HA2 := Lib.hid ha2
    have HH2 := Lib.hid hh2
    have f3' := HG2.out.frozen 3
    have c3' : w2.cell? ⟨G, 3, none⟩ = some (.slice none 0 0) := (HG2.out.cell 3).trans rfl
    have hz2 := hb2.size
    rw [HZ1.out] at hz2
    clear hb2 hh2 ha2
    go_upto_region 8 with (fail)
    obtain ⟨I, hI⟩ : ∃ I : Value, I = .slice (some ⟨w1.heap.size, 0, none⟩) 1 1 := ⟨_, rfl⟩
    obtain ⟨w3, hw3⟩ : ∃ w3, w3 = w2.setCell ⟨G, 3, none⟩ I := ⟨_, rfl⟩
    have HG3 := Lib.hid (show Bk w3 G 51 (mCells k 0 0 I 0 (.slice none 0 0) (.slice none 0 0)) by rw [hw3]; exact HG2.out.set 3 I)
    have HS3 := Lib.hid (show Bk w3 g 145 cs by rw [hw3]; exact HS2.out.far (p := ⟨G, 3, none⟩) (by show g ≠ G; omega) I)
    have k23 : Kp (fun i => i = G) w2 w3 := by rw [hw3]; exact kp_cell1 _ _ _ _
    have HA3 := Lib.hid (show BytesAt w3 B A2 rest by rw [HRE.out]; exact At.kp HA2.out k23 (by omega) (fun i hi e => by omega))
    have HK3 := Lib.hid (show Kp (fun i => i = G) w w3 from (hKP _ HB2.out).trans k23)
    have HI3 := Lib.hid (show ∃ AI cI, I = .slice AI s.ids cI ∧ s.ids ≤ cI ∧ cI ≤ maxLen ∧ HashesAt w3 w3.heap.size AI (Msgs.hashes b s.ids) ∧ ∀ a, AI = some a → G < a.block by
      rw [← HSI.out]
      exact ⟨some ⟨w1.heap.size, 0, none⟩, 1, by rw [hI], Nat.le_refl _, by simp [maxLen], by rw [HZ1.out]; exact hashes_kp HH2.out k23 (fun a ha => by cases ha; show G < g + 1; omega), fun a ha => by cases ha; show G < w1.heap.size; rw [HZ1.out]; omega⟩)
    have hz3 : g + 1 ≤ w3.heap.size := by have := k23.size; omega
    rw [← hI, ← hw3]
    clear hw3 hI HG1 HS1 HA1 HB1 HLS f2 f3 s1 s2 s4 hr2'' HG2 HS2 HB2 HA2 HH2 f3' c3' hz2 k23
  all_goals
    clear HL HHL HZ1 hLL' hLL2
    have hr3 : sc + sn ≤ r2 := by omega
    have HR2 := Lib.hid hr2'
    clear hr2'
    have s1 : w3.cell? ⟨g, 1, none⟩ = some (.int .i64 (sc : Int)) := by rw [HS3.out.cell, HSH.out]; rfl
    go_wp2_with fail
    go_loopw [42] (fun i wr => ∃ j : Nat, j ≤ sc ∧ i = .int .i64 (j : Int) ∧ Hid (Bk wr G 51 (mCells k 0 (Oct.val (rest.take j)) I 0 (.slice none 0 0) (.slice none 0 0))) ∧ Hid (Kp (fun i => i = G) w3 wr)) (fun i _ => sc - (intOf i).toNat)
    case atStart => exact ⟨0, Nat.zero_le _, rfl, HG3, Lib.hid (Kp.refl _ _)⟩
    case round =>
      obtain ⟨j, hj, rfl, hgb, hkp⟩ := hrel
      by_cases hlt : j < sc
      · have hjr : j < rest.length := by rw [HRL.out]; omega
        have HAR := At.kp HA3.out hkp.out (by omega) (fun i hi e => by omega)
        obtain ⟨bb, off, rfl, hbB, hcell⟩ := BytesAt.cell HAR hjr
        have hx1 := rest[j].toNat_lt
        have hx2 := Oct.val_lt (rest.take j)
        rw [List.length_take, Nat.min_eq_left (by omega)] at hx2
        have hor := or_byte32 (Oct.val (rest.take j)) j rest[j].toNat (by omega) hx1 hx2
        rw [← val_take rest j hjr] at hor
        rw [IntKind.wrap_u32] at hor
        have HOR := Lib.hid hor
        clear hor hx2 HAR
        generalize rest[j] = cb at *
        generalize Oct.val (rest.take j) = x at *
        have m2 : wr.cell? ⟨G, 2, none⟩ = some (.int .u32 (x : Int)) := (hgb.out.cell 2).trans rfl
        have fr2 := hgb.out.frozen 2
        have hne : bb ≠ G := by omega
        have i1 : (0 : Int) ≤ (j : Int) := by omega
        have i2 : (j : Int) < (r2 : Int) := by omega
        have HGB := hgb
        clear s1 hgb
        go_wp2_with fail
        go_region
        go_wp2_with fail
        go_roundw
        case rel =>
          refine ⟨j + 1, by omega, by go_num, Lib.hid ?_, Lib.hid ((hkp.out.trans (kp_cell1 _ _ _ _)).drew)⟩
          rw [HOR.out]
          exact (HGB.out.set 2 _).drew
        case measure => simp [intOf]; omega
      · obtain rfl : sc = j := by omega
        have HGB := hgb
        have hx2 := Oct.val_lt (rest.take sc)
        rw [← HCO1.out] at HGB hx2
        have hzr : g + 1 ≤ wr.heap.size := by have := hkp.out.size; omega
        have HSR := Lib.hid (HS3.out.kp hkp.out (by omega))
        have m2 : wr.cell? ⟨G, 2, none⟩ = some (.int .u32 ((Msgs.codeOf s b : Nat) : Int)) := (HGB.out.cell 2).trans rfl
        have t3 : wr.cell? ⟨g, 3, none⟩ = some (.int .u32 (sm : Int)) := by rw [HSR.out.cell, HSH.out]; rfl
        have hcb : Msgs.codeOf s b < 4294967296 := by
          have h256 : 256 ^ (rest.take sc).length ≤ 256 ^ 4 := Nat.pow_le_pow_right (by decide) (by rw [List.length_take]; omega)
          omega
        clear hx2 s1 hgb
        rcases Nat.lt_or_ge sm (Msgs.codeOf s b) with q3 | q3
        · have q3' : (sm : Int) < ((Msgs.codeOf s b : Nat) : Int) := by omega
          have HX := Lib.hid (show errP s b = 6 by rw [hER.out, if_pos q3])
          generalize Msgs.codeOf s b = code at *
          clear hER HER
          go_wp2_with fail
          go_region
          go_wp2_with fail
          go_ret
          exact ⟨by rw [HX.out]; rfl, (HK3.out.trans hkp.out).drew, fun h => by rw [HX.out] at h; cases h⟩
        · have q3' : ¬ (sm : Int) < ((Msgs.codeOf s b : Nat) : Int) := by omega
          have HX := Lib.hid (show errP s b = 0 by rw [hER.out, if_neg (by omega)])
          have HCZ := Lib.hid (Eq.refl (Msgs.codeOf s b))
          generalize hcode : Msgs.codeOf s b = code at *
          have HCODE := Lib.hid hcode
          clear hER HER hcode HCZ HCO1
          have t2 : wr.drew.cell? ⟨g, 2, none⟩ = some (.int .i64 (sn : Int)) := by
            show wr.cell? _ = _
            rw [HSR.out.cell, HSH.out]; rfl
          have HKP1 := hkp
          have HG5 := HGB
          go_wp2_with fail
          go_region
          go_wp2_with fail
          obtain ⟨l, hl⟩ : ∃ l, l = rest.drop sc := ⟨_, rfl⟩
          have HLD := Lib.hid hl
          have HLL := Lib.hid (show l.length = sn by rw [hl, List.length_drop, HRL.out]; omega)
          rw [← hl] at HNO1
          clear hl m2 t3 t2 hkp HGB hzr q3 q3' hcb
          go_loopw [71] (fun i wr => ∃ j : Nat, j ≤ sn ∧ i = .int .i64 (j : Int) ∧ Hid (Bk wr G 51 (mCells k (Oct.val (l.take j)) code I 0 (.slice none 0 0) (.slice none 0 0))) ∧ Hid (Kp (fun i => i = G) w3 wr)) (fun i _ => sn - (intOf i).toNat)
          case atStart => exact ⟨0, Nat.zero_le _, rfl, Lib.hid (by simpa [Oct.val] using HG5.out.drew), Lib.hid HKP1.out.drew⟩
          case round =>
            obtain ⟨j, hj2, rfl, hgb, hkp⟩ := hrel
            by_cases hlt2 : j < sn
            · have hjr : sc + j < rest.length := by rw [HRL.out]; omega
              have hjl : j < l.length := by rw [HLL.out]; exact hlt2
              have HAR := At.kp HA3.out hkp.out (by omega) (fun i hi e => by omega)
              obtain ⟨bb, off, rfl, hbB, hcell⟩ := BytesAt.cell HAR hjr
              have hlj : rest[sc + j] = l[j] := by
                have := HLD.out
                subst this
                rw [List.getElem_drop]
              rw [hlj] at hcell
              have hx1 := l[j].toNat_lt
              have hx2 := Oct.val_lt (l.take j)
              rw [List.length_take, Nat.min_eq_left (by omega)] at hx2
              have hor := or_byte (Oct.val (l.take j)) j l[j].toNat (by omega) hx1 hx2
              rw [← val_take l j hjl] at hor
              have HOR := Lib.hid hor
              clear hor hx2 HAR hlj
              generalize l[j] = cb at *
              generalize Oct.val (l.take j) = x at *
              have hzr2 : g + 1 ≤ wr.heap.size := by have := hkp.out.size; omega
              have HSR2 := Lib.hid (HS3.out.kp hkp.out (by omega))
              have m1 : wr.cell? ⟨G, 1, none⟩ = some (.int .u64 (x : Int)) := (hgb.out.cell 1).trans rfl
              have t1 : wr.cell? ⟨g, 1, none⟩ = some (.int .i64 (sc : Int)) := by rw [HSR2.out.cell, HSH.out]; rfl
              have fr1 := hgb.out.frozen 1
              have hne : bb ≠ G := by omega
              have hne2 : g ≠ G := by omega
              have i0 : (0 : Int) ≤ (sc : Int) := by omega
              have i1 : (0 : Int) ≤ (j : Int) := by omega
              have i2 : (sc : Int) + (j : Int) < (r2 : Int) := by omega
              have i3 : (0 : Int) ≤ (sc : Int) + (j : Int) := by omega
              have i4 : ((sc : Int) + (j : Int)).toNat = sc + j := by omega
              have HGB := hgb
              clear hgb
              go_wp2_with fail
              go_region
              go_wp2_with fail
              go_roundw
              case rel =>
                refine ⟨j + 1, by omega, by go_num, Lib.hid ?_, Lib.hid ((hkp.out.trans (kp_cell1 _ _ _ _)).drew)⟩
                rw [HOR.out]
                exact (HGB.out.set 1 _).drew
              case measure => simp [intOf]; omega
            · obtain rfl : sn = j := by omega
              have HTK := Lib.hid (show l.take sn = l from List.take_of_length_le (by rw [HLL.out]; exact Nat.le_refl _))
              go_wp2_with fail
              go_ret
              refine ⟨by rw [HX.out]; rfl, HK3.out.trans hkp.out, fun _ => ?_⟩
              obtain ⟨AI, cI, hIe, h5, h6, h7, h9⟩ := HI3.out
              have h8 := hgb.out
              rw [← HNO1.out, hIe, ← HCODE.out] at h8
              exact ⟨AI, cI, h8, h5, h6, hashes_kp h7 hkp.out h9, h9⟩
end Go.Proofs.YtpacgblddeoheaaDoor.M8
/- Package msg: a message out of a command and a body. -/
namespace Go.Proofs.YtpacgblddeoheaaDoor.M8
open Go.RowKit Go.Deep T7
set_option linter.unusedVariables false
set_option linter.unusedSimpArgs false
set_option maxRecDepth 100000
attribute [local go_sem ↓] Go.wp_at_zero Go.wp_at_succ

theorem plain_err (k : Int) (b : List UInt8) : (errP (Msgs.shp k) b ≠ 0 → Msgs.plain k b = (Msgs.none, errP (Msgs.shp k) b)) ∧ (errP (Msgs.shp k) b = 0 → Msgs.plain k b = (⟨k, Msgs.numOf (Msgs.shp k) b, Msgs.codeOf (Msgs.shp k) b, Msgs.hashes b (Msgs.shp k).ids, Txs.none⟩, 0)) := by
  unfold errP Msgs.plain
  by_cases h1 : b.length < Msgs.sizeOf (Msgs.shp k)
  · simp only [if_pos h1]; exact ⟨fun _ => trivial, fun h => by cases h⟩
  simp only [if_neg h1]
  by_cases h2 : Msgs.sizeOf (Msgs.shp k) < b.length
  · simp only [if_pos h2]; exact ⟨fun _ => trivial, fun h => by cases h⟩
  simp only [if_neg h2]
  by_cases h3 : (Msgs.shp k).most < Msgs.codeOf (Msgs.shp k) b
  · simp only [if_pos h3]; exact ⟨fun _ => trivial, fun h => by cases h⟩
  simp only [if_neg h3]
  exact ⟨fun h => absurd rfl h, fun _ => trivial⟩
theorem str_ne (l : List UInt8) (s : ByteArray) (h : l = s.data.toList) : ((⟨l.toArray⟩ : ByteArray)) = s := by
  subst h
  simp
def zeroM : Array Value := #[.int .i64 0, .int .u64 0, .int .u32 0, .slice none 0 0, .int .u32 0, .slice none 0 0, .slice none 0 0]
theorem zeroM_one : zeroM.all (·.oneCell') = true := by simp [zeroM, Value.oneCell']
theorem msgV_cells {m : Msgs.Msg} {A A1 A2 : Option Addr} {c c1 c2 : Nat} {mm : Array Value} (h : msgV m A c A1 c1 A2 c2 = .agg mm) : mm.size = 7 ∧ mm.all (·.oneCell') = true := by
  unfold msgV at h
  injection h with h
  subst h
  exact ⟨rfl, by simp [Value.oneCell']⟩
/-- what a branch of Get has read -/
structure GetMid (w w' : World) (g gm : Nat) (r : Msgs.Msg × Int) (er : Int) : Prop where
  res : Bk w' g 51 zeroM
  below : Below w.heap.size w w'
  bad : er ≠ 0 → r = (Msgs.none, er)
  good : er = 0 → ∃ mm A c A1 c1 A2 c2 m, r = (m, 0) ∧ Bk w' gm 51 mm ∧ msgV m A c A1 c1 A2 c2 = .agg mm ∧ ∀ wz, Kp (fun i => i < w.heap.size ∨ i = g) w' wz → MsgAt wz wz.heap.size m A c A1 c1 A2 c2
set_option maxHeartbeats 8000000 in
theorem get_any (cmd : ByteArray) (A : Option Addr) (L c B : Nat) (b : List UInt8) (w : World) (hl : b.length = L) (hc : L ≤ c) (hm : c ≤ maxLen) (hn : L ≤ 140737488351232) (hat : BytesAt w B A b) (hB : B ≤ w.heap.size) :
    Calls Tryd.prog 52 #[.string cmd, .slice A L c] w fun e w' => MsgOut w w' (Msgs.get cmd.data.toList b) e := by
  have HAT := Lib.hid hat
  have HWH := Lib.hid (fun W (h1 : Below B w W) (h2 : B ≤ W.heap.size) => whole_any A L c B b W hl hc hm hn (At.below hat h1) h2)
  have HMN := Lib.hid (fun W (h1 : Below B w W) (h2 : B ≤ W.heap.size) => many_any A L c B b W hl hc hm (At.below hat h1) h2)
  have HPL := Lib.hid (fun W (h1 : Below B w W) (h2 : B ≤ W.heap.size) (s : Msgs.Shape) (hs : Msgs.Facts s) (hq : s.count = false) (k : Int) (G : Nat) (hG : Bk W G 51 (mCells k 0 0 (.slice none 0 0) 0 (.slice none 0 0) (.slice none 0 0))) (hBG : B ≤ G) => plain_any s hs hq k G A L c B b W hG hl hc hm (At.below hat h1) h2 hBG)
  obtain ⟨cl, hcl⟩ : ∃ cl, cl = cmd.data.toList := ⟨_, rfl⟩
  rw [← hcl]
  have HCL := Lib.hid hcl
  have HGET := Lib.hid (show Msgs.get cl b = if Msgs.kindOf cl = 0 then (Msgs.none, 8) else Msgs.getOf ((Msgs.kindOf cl : Nat) : Int) b from rfl)
  obtain ⟨w0, hw0⟩ : ∃ w0, w0 = w.alloc (.cells zeroM 51) := ⟨_, rfl⟩
  have hw0' : w0 = w.alloc (.cells #[.int .i64 0, .int .u64 0, .int .u32 0, .slice none 0 0, .int .u32 0, .slice none 0 0, .slice none 0 0] 51) := hw0
  obtain ⟨g, hg⟩ : ∃ g, g = w.heap.size := ⟨_, rfl⟩
  have HR0 := Lib.hid (show Bk w0 g 51 zeroM by rw [hw0, hg]; exact Bk.new _ _ _)
  have HB0 := Lib.hid (show Below w.heap.size w w0 by rw [hw0]; exact Joins.below_alloc1 _ _)
  have HZ0 := Lib.hid (show w0.heap.size = g + 1 by rw [hw0, hg]; simp)
  have hgB : B ≤ g := by omega
  have HG := Lib.hid hg
  have hgw : w.heap.size ≤ g := by omega
  obtain ⟨sz, hsz⟩ : ∃ sz : Array Value, sz = #[.string ⟨#[]⟩, .int .i64 0, .int .i64 0, .int .u32 0, .int .i64 0, .bool false, .bool false] := ⟨_, rfl⟩
  clear hw0 hat hl hcl
  go_enter Tryd.func52, Tryd.ntmps52
  go_wp2_with fail
  rw [← hw0', ← hg]
  clear hw0' hg
  go_loopw [6] (fun u wr => ∃ j : Nat, 1 ≤ j ∧ j ≤ 12 ∧ u = .int .i64 (j : Int) ∧ Hid (Msgs.kindOf cl = Msgs.kindFrom cl (12 - j) j) ∧ Hid (Bk wr g 51 zeroM) ∧ Hid (Below w.heap.size w wr ∧ g + 1 ≤ wr.heap.size)) (fun u _ => 12 - (intOf u).toNat)
  case atStart => exact ⟨1, by omega, by omega, rfl, Lib.hid rfl, HR0, Lib.hid ⟨HB0.out, by rw [HZ0.out]; exact Nat.le_refl _⟩⟩
  case round =>
    obtain ⟨j, hj1, hj2, rfl, hkf, hres, hbel⟩ := hrel
    by_cases hlt : j < 12
    · have HSA := Lib.hid (fun W => shapes_any (j : Int) W)
      have hsh : Msgs.shp (j : Int) = Msgs.shN j := rfl
      rw [hsh] at HSA
      have HKF := Lib.hid (show Msgs.kindOf cl = if (Msgs.shN j).cmd = cl then j else Msgs.kindFrom cl (12 - (j + 1)) (j + 1) by
        rw [hkf.out, show 12 - j = (12 - (j + 1)) + 1 by omega]; rfl)
      obtain ⟨s, hs⟩ : ∃ s, s = Msgs.shN j := ⟨_, rfl⟩
      rw [← hs] at HSA HKF
      have HFA := Lib.hid (show Msgs.Facts s by rw [hs]; exact Msgs.facts (j : Int))
      have HSN := Lib.hid hs
      obtain ⟨cs, hcs⟩ : ∃ cs, cs = shapeCells s := ⟨_, rfl⟩
      rw [← hcs] at HSA
      have HSH := Lib.hid hcs
      have HCS := Lib.hid (show cs.size = 7 by rw [hcs]; rfl)
      have HC1 := Lib.hid (show cs.all (·.oneCell') = true by rw [hcs]; simp [shapeCells, Value.oneCell'])
      have HB := Lib.hid hbel.out.1
      have hz := hbel.out.2
      have j1 : (j : Int) ≤ 11 := by omega
      have hkn : Msgs.known (j : Int) = true := Msgs.known_iff.2 ⟨by omega, by omega⟩
      rw [hkn] at HSA
      clear hkf hs hcs hbel hsh hkn hlt
      go_wp2_with fail
      refine (HSA.out _).mono ?_
      rintro e w1 ⟨rfl, hb1⟩
      have HR1 := Lib.hid (hres.out.below hb1 (by omega))
      have HB1 := Lib.hid (HB.out.trans (hb1.mono HB.out.size))
      have hz1 : g + 1 ≤ w1.heap.size := by have := hb1.size; omega
      clear hb1 hres HB HSA
      go_upto_region 5 with (refine wpList_store_row rfl 145 (.tmp 7) (.tmp 18) rfl w1.heap.size cs (by rfl) (by rfl) 145 _ (Bk.new _ _ _) (by rw [HCS.out]; exact size_shape) (by rw [HCS.out]; rfl) HC1.out ?_)
      rw [World.setRow_alloc_new]
      obtain ⟨w2, hw2⟩ : ∃ w2, w2 = w1.alloc (.cells cs 145) := ⟨_, rfl⟩
      rw [← hw2]
      obtain ⟨g7, hg7⟩ : ∃ g7, g7 = w1.heap.size := ⟨_, rfl⟩
      have HS2 := Lib.hid (show Bk w2 g7 145 cs by rw [hw2, hg7]; exact Bk.new _ _ _)
      have HR2 := Lib.hid (show Bk w2 g 51 zeroM by rw [hw2]; exact HR1.out.alloc _)
      have HB2 := Lib.hid (show Below w.heap.size w w2 by rw [hw2]; exact HB1.out.alloc HB1.out.size _)
      have hz2 : w2.heap.size = g7 + 1 := by rw [hw2, hg7]; simp
      have HZ2 := Lib.hid hz2
      have hz2' : g7 + 1 ≤ w2.heap.size := by omega
      have hgg7 : g + 1 ≤ g7 := by omega
      rw [← hg7]
      clear hw2 hg7 hz1 HR1 HB1 hz2 hz
      by_cases hq : s.cmd = cl
      · have HK := Lib.hid (show Msgs.kindOf cl = j by rw [HKF.out, if_pos hq])
        have hseq : (s.cmd == cmd.toList) = true := by rw [ByteArray.toList_eq, ← HCL.out, hq, beq_self_eq_true]
        have HGT := Lib.hid (show Msgs.get cl b = Msgs.getOf (j : Int) b by rw [HGET.out, HK.out, if_neg (by omega)])
        have s0 : w2.cell? ⟨g7, 0, none⟩ = some (.string ⟨s.cmd.toArray⟩) := by rw [HS2.out.cell, HSH.out]; rfl
        clear HKF hq
        go_upto_region 9 with (fail)
        obtain ⟨gm, hgm⟩ : ∃ gm, gm = w2.heap.size := ⟨_, rfl⟩
        obtain ⟨w3, hw3⟩ : ∃ w3, w3 = w2.alloc (.cells (mCells (j : Int) 0 0 (.slice none 0 0) 0 (.slice none 0 0) (.slice none 0 0)) 51) := ⟨_, rfl⟩
        have hw3' : w3 = w2.alloc (.cells #[.int .i64 (j : Int), .int .u64 0, .int .u32 0, .slice none 0 0, .int .u32 0, .slice none 0 0, .slice none 0 0] 51) := hw3
        have HM3 := Lib.hid (show Bk w3 gm 51 (mCells (j : Int) 0 0 (.slice none 0 0) 0 (.slice none 0 0) (.slice none 0 0)) by rw [hw3, hgm]; exact Bk.new _ _ _)
        have HS3 := Lib.hid (show Bk w3 g7 145 cs by rw [hw3]; exact HS2.out.alloc _)
        have HR3 := Lib.hid (show Bk w3 g 51 zeroM by rw [hw3]; exact HR2.out.alloc _)
        have HB3 := Lib.hid (show Below w.heap.size w w3 by rw [hw3]; exact HB2.out.alloc HB2.out.size _)
        have hz3 : gm + 1 ≤ w3.heap.size := by rw [hw3, hgm]; simp
        have hgg : g7 + 1 ≤ gm := by rw [hgm, HZ2.out]; exact Nat.le_refl _
        rw [← hw3', ← hgm]
        clear hw3 hw3' hgm HS2 HR2 HB2 HZ2 hz2' s0 hseq
        obtain ⟨_, _, _, _, s4, s5, s6⟩ := shape_cells (by have := HS3.out; rw [HSH.out] at this; exact this)
        have fm0 := HM3.out.frozen 3
        have fm4 := HM3.out.frozen 4
        have fm5 := HM3.out.frozen 5
        have fm6 := HM3.out.frozen 6
        have m3 : w3.cell? ⟨gm, 3, none⟩ = some (.slice none 0 0) := (HM3.out.cell 3).trans rfl
        have m4 : w3.cell? ⟨gm, 4, none⟩ = some (.int .u32 0) := (HM3.out.cell 4).trans rfl
        have m5 : w3.cell? ⟨gm, 5, none⟩ = some (.slice none 0 0) := (HM3.out.cell 5).trans rfl
        have m6 : w3.cell? ⟨gm, 6, none⟩ = some (.slice none 0 0) := (HM3.out.cell 6).trans rfl
        have HGO := Lib.hid (show Msgs.getOf (j : Int) b = if s.tx = true then (if (Txs.whole b).2 ≠ 0 then (Msgs.none, (Txs.whole b).2) else (⟨(j : Int), 0, 0, [], (Txs.whole b).1⟩, 0)) else if s.count = true then Msgs.many (j : Int) b else Msgs.plain (j : Int) b by rw [HSN.out]; rfl)
        have hcase : s.tx = true ∨ (s.tx = false ∧ s.count = true) ∨ (s.tx = false ∧ s.count = false) := by cases s.tx <;> cases s.count <;> simp
        rcases hcase with h1 | ⟨h1, h2⟩ | ⟨h1, h2⟩
        focus
          have HGX := Lib.hid (show Msgs.get cl b = if (Txs.whole b).2 ≠ 0 then (Msgs.none, (Txs.whole b).2) else (⟨(j : Int), 0, 0, [], (Txs.whole b).1⟩, 0) by rw [HGT.out, HGO.out, if_pos h1])
          rw [h1] at s6
          go_wp2_with fail
          refine (HWH.out _ (HB3.out.mono hB) (by omega)).mono ?_
          rintro e w4 ⟨A1, c1, A2, c2, rfl, hnew, hb4⟩
          unfold txV
          generalize Txs.whole b = q at *
          obtain ⟨tx, er⟩ := q
          simp only at hnew ⊢
          have HTA := Lib.hid (TxNew.at_ hnew)
          have HM4 := Lib.hid (HM3.out.below hb4 HM3.out.lt)
          have HR4 := Lib.hid (HR3.out.below hb4 HR3.out.lt)
          have HB4 := Lib.hid (HB3.out.trans (hb4.mono HB3.out.size))
          have hz4 := hb4.size
          have n4 : w4.cell? ⟨gm, 4, none⟩ = some (.int .u32 0) := (HM4.out.cell 4).trans rfl
          have n5 : w4.cell? ⟨gm, 5, none⟩ = some (.slice none 0 0) := (HM4.out.cell 5).trans rfl
          have n6 : w4.cell? ⟨gm, 6, none⟩ = some (.slice none 0 0) := (HM4.out.cell 6).trans rfl
          have o4 := HM4.out.frozen 4
          have o5 := HM4.out.frozen 5
          have o6 := HM4.out.frozen 6
          have HNEW := Lib.hid hnew
          clear hnew hb4 fm0 fm4 fm5 fm6 m3 m4 m5 m6 s4 s5 s6
          go_upto_region 13 with (fail)
          obtain ⟨w5, hw5⟩ : ∃ w5, w5 = ((w4.setCell ⟨gm, 4, none⟩ (.int .u32 (tx.version : Int))).setCell ⟨gm, 5, none⟩ (.slice A1 tx.ins.length c1)).setCell ⟨gm, 6, none⟩ (.slice A2 tx.outs.length c2) := ⟨_, rfl⟩
          have k45 : Kp (fun i => i = gm) w4 w5 := by rw [hw5]; exact ((kp_cell1 _ _ _ _).trans (kp_cell1 _ _ _ _)).trans (kp_cell1 _ _ _ _)
          have HM5 := Lib.hid (show Bk w5 gm 51 (mCells (j : Int) 0 0 (.slice none 0 0) tx.version (.slice A1 tx.ins.length c1) (.slice A2 tx.outs.length c2)) by rw [hw5]; exact ((HM4.out.set 4 _).set 5 _).set 6 _)
          have HMID := Lib.hid (show GetMid w w5 g gm (Msgs.get cl b) er from ⟨HR4.out.kp k45 (by show ¬ g = gm; omega), Kp.from_elder HB4.out k45 (fun i hi e => by omega), fun he => by rw [HGX.out, if_pos he], fun he => by
            refine ⟨_, none, 0, A1, c1, A2, c2, ⟨(j : Int), 0, 0, [], tx⟩, by rw [HGX.out, if_neg (by simp [he])], HM5.out, rfl, fun wz kz => ⟨by show _ ≤ (j : Int); omega, by show (j : Int) ≤ _; omega, by show (0 : Nat) < _; omega, by show (0 : Nat) < _; omega, Nat.le_refl _, by simp [maxLen], fun i hi => by simp at hi, HNEW.out wz ((k45.mono (fun i _ e => by omega)).trans (kz.mono (fun i _ e => by omega)))⟩⟩⟩)
          rw [← hw5]
          clear hw5 k45 HM5 n4 n5 n6 o4 o5 o6 hz4 HM4 HR4 HB4 HNEW HTA
        rotate_left
        focus
          have HGX := Lib.hid (show Msgs.get cl b = Msgs.many (j : Int) b by rw [HGT.out, HGO.out, if_neg (by simp [h1]), if_pos h2])
          have HFC := Lib.hid (HFA.out.count h2)
          rw [h1] at s6
          rw [h2] at s5
          rw [HFC.out.2.2] at s4
          go_wp2_with fail
          refine (HMN.out _ (HB3.out.mono hB) (by omega)).mono ?_
          rintro e w4 ⟨A1, c1, rfl, hc1, hm1, hh1, hA1, hb4⟩
          have HHS := Lib.hid hh1
          have HME := Lib.hid (many_err (j : Int) b)
          generalize manyI b = q at *
          obtain ⟨ids, er⟩ := q
          simp only at hc1 ⊢
          have HM4 := Lib.hid (HM3.out.below hb4 HM3.out.lt)
          have HR4 := Lib.hid (HR3.out.below hb4 HR3.out.lt)
          have HB4 := Lib.hid (HB3.out.trans (hb4.mono HB3.out.size))
          have hz4 := hb4.size
          have n3 : w4.cell? ⟨gm, 3, none⟩ = some (.slice none 0 0) := (HM4.out.cell 3).trans rfl
          have o3 := HM4.out.frozen 3
          have HA1 := Lib.hid hA1
          clear hh1 hb4 hA1 fm0 fm4 fm5 fm6 m3 m4 m5 m6 s4 s5 s6
          go_upto_region 13 with (fail)
          obtain ⟨w5, hw5⟩ : ∃ w5, w5 = w4.setCell ⟨gm, 3, none⟩ (.slice A1 ids.length c1) := ⟨_, rfl⟩
          have k45 : Kp (fun i => i = gm) w4 w5 := by rw [hw5]; exact kp_cell1 _ _ _ _
          have HM5 := Lib.hid (show Bk w5 gm 51 (mCells (j : Int) 0 0 (.slice A1 ids.length c1) 0 (.slice none 0 0) (.slice none 0 0)) by rw [hw5]; exact HM4.out.set 3 _)
          have HMID := Lib.hid (show GetMid w w5 g gm (Msgs.get cl b) er from ⟨HR4.out.kp k45 (by show ¬ g = gm; omega), Kp.from_elder HB4.out k45 (fun i hi e => by omega), fun he => by rw [HGX.out]; exact HME.out.2.1 he, fun he => by
            refine ⟨_, A1, c1, none, 0, none, 0, ⟨(j : Int), 0, 0, ids, Txs.none⟩, by rw [HGX.out]; exact HME.out.2.2 he, HM5.out, rfl, fun wz kz => ⟨by show _ ≤ (j : Int); omega, by show (j : Int) ≤ _; omega, by show (0 : Nat) < _; omega, by show (0 : Nat) < _; omega, hc1, hm1, hashes_kpS (hashes_kp HHS.out k45 (fun a ha => by have := HA1.out a ha; omega)) kz (fun a ha => by have := HA1.out a ha; show ¬ (a.block < w.heap.size ∨ a.block = g); omega), none_tx _ _⟩⟩⟩)
          rw [← hw5]
          clear hw5 k45 HM5 n3 o3 hz4 HM4 HR4 HB4 HHS hc1 hm1 HA1
        rotate_left
        focus
          have HGX := Lib.hid (show Msgs.get cl b = Msgs.plain (j : Int) b by rw [HGT.out, HGO.out, if_neg (by simp [h1]), if_neg (by simp [h2])])
          have HPE := Lib.hid (plain_err (j : Int) b)
          have hsh : Msgs.shp (j : Int) = Msgs.shN j := rfl
          rw [hsh, ← HSN.out] at HPE
          clear hsh
          rw [h1] at s6
          rw [h2] at s5
          have HPLS := Lib.hid (HPL.out w3 (HB3.out.mono hB) (by omega) s HFA.out h2 (j : Int) gm HM3.out (by omega))
          rw [← HSH.out] at HPLS
          go_wp2_with (refine wpList_load_row rfl 145 (.tmp 7) rfl g7 (by rfl) 145 cs (0, 0) _ HS3.out Tryd.underlying145 rfl (by rw [HCS.out]; exact size_shape) ?_)
          refine HPLS.out.mono ?_
          rintro e w5 ⟨rfl, hk4, ho4⟩
          generalize errP s b = er at *
          have HMID := Lib.hid (show GetMid w w5 g gm (Msgs.get cl b) er from ⟨HR3.out.kp hk4 (by show ¬ g = gm; omega), Kp.from_elder HB3.out hk4 (fun i hi e => by omega), fun he => by rw [HGX.out]; exact HPE.out.1 he, fun he => by
            obtain ⟨A1, c1, h3, h4, h5, h6, h7⟩ := ho4 he
            have hlen : (Msgs.hashes b s.ids).length = s.ids := Msgs.hashes_len _ _
            have hok := (Msgs.get_ok (cmd := cl) (b := b) (by rw [HGX.out, HPE.out.2 he])).1
            rw [HGX.out, HPE.out.2 he] at hok
            exact ⟨_, A1, c1, none, 0, none, 0, ⟨(j : Int), Msgs.numOf s b, Msgs.codeOf s b, Msgs.hashes b s.ids, Txs.none⟩, by rw [HGX.out]; exact HPE.out.2 he, h3, by unfold msgV; rw [hlen]; rfl, fun wz kz => ⟨by show _ ≤ (j : Int); omega, by show (j : Int) ≤ _; omega, hok.n, hok.code, by show (Msgs.hashes b s.ids).length ≤ _; rw [hlen]; exact h4, h5, hashes_kpS h6 kz (fun a ha => by have := h7 a ha; show ¬ (a.block < w.heap.size ∨ a.block = g); omega), none_tx _ _⟩⟩⟩)
          go_upto_region 13 with (fail)
          clear hk4 ho4 fm0 fm4 fm5 fm6 m3 m4 m5 m6 s4 s5 s6
        all_goals
          have HRZ := Lib.hid HMID.out.res
          have HBZ := Lib.hid HMID.out.below
          rcases Decidable.em (er = 0) with he | he
          · obtain ⟨mm, A', c', A1', c1', A2', c2', m, hqe, hbk, hv, hat⟩ := HMID.out.good he
            have HBK := Lib.hid hbk
            have HV := Lib.hid hv
            have HQ := Lib.hid hqe
            have HAT2 := Lib.hid hat
            have HML := Lib.hid (msgV_cells hv).1
            have HMO := Lib.hid (msgV_cells hv).2
            clear hqe hbk hv hat HMID
            subst he
            go_wp2_with (first
              | (refine wpList_load_row rfl 51 (.tmp 9) rfl gm (by rfl) 51 mm (0, 0) _ HBK.out Tryd.underlying51 rfl (by rw [HML.out]; exact size_msg) ?_)
              | (refine wpList_store_row rfl 51 (.tmp 4) _ rfl g mm (by rfl) (by rfl) 51 zeroM HRZ.out (by rw [HML.out]; exact size_msg) (by rw [HML.out]; rfl) HMO.out ?_))
            refine bodyPost_ret (results_row_tmp rfl _ _ g 51 mm (0, 0) _ rfl (setRow_heap _ _ _ _ _ _ HRZ.out) Tryd.underlying51 rfl (by rw [HML.out]; exact size_msg) (.int .i64 0) (by rfl)) rfl ?_
            have kz : Kp (fun i => i = g) w5 (w5.setRow g mm) := Kp.setRow7 (S := fun i => i = g) (Kp.refl _ _) (fun _ => rfl) mm
            rw [HQ.out]
            exact ⟨A', c', A1', c1', A2', c2', by rw [HV.out], (fun wz hz => HAT2.out wz ((kz.mono (fun _ _ h => .inr h)).trans (hz.mono (fun _ _ h => .inl h)))), below_row HBZ.out (by omega) mm⟩
          · have e1 : (er != 0) = true := by rw [bne_iff_ne]; exact he
            have HQ := Lib.hid (HMID.out.bad he)
            clear HMID he
            go_wp2_with (refine wpList_store_row rfl 51 (.tmp 4) _ rfl g zeroM (by rfl) (by rfl) 51 zeroM HRZ.out (by exact size_msg) rfl zeroM_one ?_)
            refine bodyPost_ret (results_row_tmp rfl _ _ g 51 zeroM (0, 0) _ rfl (setRow_heap _ _ _ _ _ _ HRZ.out) Tryd.underlying51 rfl (by exact size_msg) (.int .i64 er) (by rfl)) rfl ?_
            rw [HQ.out]
            exact ⟨none, 0, none, 0, none, 0, rfl, none_new _ _, below_row HBZ.out (by omega) _⟩
      · have HK := Lib.hid (show Msgs.kindOf cl = Msgs.kindFrom cl (12 - (j + 1)) (j + 1) by rw [HKF.out, if_neg hq])
        have hseq : (s.cmd == cmd.toList) = false := by rw [ByteArray.toList_eq, ← HCL.out, beq_eq_false_iff_ne]; exact hq
        have s0 : w2.cell? ⟨g7, 0, none⟩ = some (.string ⟨s.cmd.toArray⟩) := by rw [HS2.out.cell, HSH.out]; rfl
        go_wp2_with fail
        go_roundw
        case rel => exact ⟨j + 1, by omega, by omega, by go_num, HK, HR2, Lib.hid ⟨HB2.out, by omega⟩⟩
        case measure => simp [intOf]; omega
    · have HK := Lib.hid (show Msgs.kindOf cl = 0 by rw [hkf.out, show 12 - j = 0 by omega]; rfl)
      obtain rfl : j = 12 := by omega
      have HX := Lib.hid (show Msgs.get cl b = (Msgs.none, 8) by rw [HGET.out, if_pos HK.out])
      have HBE := Lib.hid hbel.out.1
      clear hkf
      go_wp2_with (refine wpList_store_row rfl 51 (.tmp 4) _ rfl g zeroM (by rfl) (by rfl) 51 zeroM hres.out (by exact size_msg) rfl zeroM_one ?_)
      refine bodyPost_ret (results_row_tmp rfl _ _ g 51 zeroM (0, 0) _ rfl (setRow_heap _ _ _ _ _ _ hres.out) Tryd.underlying51 rfl (by exact size_msg) (.int .i64 8) (by rfl)) rfl ?_
      rw [HX.out]
      exact ⟨none, 0, none, 0, none, 0, rfl, none_new _ _, below_row HBE.out (by omega) _⟩
end Go.Proofs.YtpacgblddeoheaaDoor.M8
/- Package msg: a message as a command and a body. -/
namespace Go.Proofs.YtpacgblddeoheaaDoor.M8
open Go.RowKit Go.Deep T7
set_option linter.unusedVariables false
set_option linter.unusedSimpArgs false
set_option maxRecDepth 100000
attribute [local go_sem ↓] Go.wp_at_zero Go.wp_at_succ

theorem ovar_small (x : Nat) (h : x < 253) (w : World) :
    Calls Tryd.prog 66 #[.int .u64 (x : Int)] w fun r w' => ∃ v, r = .returned v ∧ OwnB w' w.heap.size v (Oct.var x) ∧ Below w.heap.size w w' := by
  have e : Oct.size x = 1 := by unfold Oct.size; rw [if_pos h]
  have ev : Oct.var x = [UInt8.ofNat x] := by unfold Oct.var; rw [if_pos h]
  have hs := osize_any x
  rw [e] at hs
  have HS := Lib.hid hs
  rw [ev]
  clear e ev hs
  go_enter Tryd.func66, Tryd.ntmps66
  go_wp2_with (go_at_call 86; refine (HS.out _).mono ?_; rintro e w' ⟨rfl, rfl⟩)
  go_ret
  refine ⟨_, rfl, ?_, (Below.refl _ _).alloc (Nat.le_refl _) _⟩
  have hown := own_one w (UInt8.ofNat x)
  rw [← byteV_nat] at hown
  first | exact hown | (rw [show ((x : Int) % 256) = (x : Int) by omega] at hown; exact hown)
theorem byteV_shr8 (x k : Nat) : Value.int .u8 ((x : Int) / 2 ^ (8 * k) % 256) = byteV (UInt8.ofNat (x / 256 ^ k)) := by
  unfold byteV
  rw [Oct.shr_nat, UInt8.toNat_ofNat', Nat.pow_mul]
  congr 1
set_option maxHeartbeats 4000000 in
theorem mput_bad (m : Msgs.Msg) (A A1 A2 : Option Addr) (c c1 c2 B : Nat) (w : World) (h : MsgAt w B m A c A1 c1 A2 c2) (hB : B ≤ w.heap.size) (hE : Msgs.errOf m ≠ 0) :
    Calls Tryd.prog 45 #[msgV m A c A1 c1 A2 c2] w fun e w' => e = .returned (.tuple #[.string ⟨#[]⟩, .slice none 0 0, .int .i64 (Msgs.errOf m)]) ∧ Below w.heap.size w w' := by
  have HC := Lib.hid (fun W (h1 : Below B w W) (h2 : B ≤ W.heap.size) => checked_any m A A1 A2 c c1 c2 B W (h.below h1) h2)
  obtain ⟨ms, hms⟩ : ∃ ms : Array Value, ms = #[.int .i64 m.kind, .int .u64 (m.n : Int), .int .u32 (m.code : Int), .slice A m.ids.length c, .int .u32 (m.tx.version : Int), .slice A1 m.tx.ins.length c1, .slice A2 m.tx.outs.length c2] := ⟨_, rfl⟩
  have HMS := Lib.hid hms
  have HML := Lib.hid (show ms.size = 7 by rw [hms]; rfl)
  have HSH := Lib.hid (shapeRow_of (Msgs.shp m.kind))
  obtain ⟨cs, hcs⟩ : ∃ cs, cs = shapeCells (Msgs.shp m.kind) := ⟨_, rfl⟩
  unfold msgV at HC ⊢
  rw [← hms] at HC ⊢
  rw [← hcs] at HC HSH
  have HCS := Lib.hid (show cs.size = 7 by rw [hcs]; rfl)
  have HC1 := Lib.hid (show cs.all (·.oneCell') = true by rw [hcs]; simp [shapeCells, Value.oneCell'])
  generalize Msgs.errOf m = er at *
  have e1 : (er != 0) = true := by rw [bne_iff_ne]; exact hE
  clear hE h
  obtain ⟨w0, hw0⟩ : ∃ w0, w0 = w.alloc (.cells ms 51) := ⟨_, rfl⟩
  have HK0 := Lib.hid (show Bk w0 w.heap.size 51 ms by rw [hw0]; exact Bk.new _ _ _)
  have HB0 := Lib.hid (show Below w.heap.size w w0 by rw [hw0]; exact Joins.below_alloc1 _ _)
  have HZ0 := Lib.hid (show w0.heap.size = w.heap.size + 1 by rw [hw0]; simp)
  clear hcs hms
  go_enter Tryd.func45, Tryd.ntmps45
  go_upto_region 1 with (fail)
  rw [← hw0]
  clear hw0
  go_wp2_with (refine wpList_load_row rfl 51 (.tmp 1) rfl w.heap.size (by rfl) 51 ms (0, 0) _ HK0.out Tryd.underlying51 rfl (by rw [HML.out]; exact size_msg) ?_)
  refine (HC.out _ (HB0.out.mono hB) (by rw [HZ0.out]; omega)).mono ?_
  rintro e w1 ⟨rfl, hb1⟩
  have HK1 := Lib.hid (HK0.out.below hb1 (by rw [HZ0.out]; omega))
  have HB1 := Lib.hid (HB0.out.trans (hb1.mono HB0.out.size))
  have hz1 : w.heap.size + 1 ≤ w1.heap.size := by have := hb1.size; rw [HZ0.out] at this; exact this
  clear hb1 HK0 HB0 HZ0 HC
  go_upto_region 2 with (refine wpList_store_row rfl 145 (.tmp 5) (.tmp 13) rfl w1.heap.size cs (by rfl) (by rfl) 145 _ (Bk.new _ _ _) (by rw [HCS.out]; exact size_shape) (by rw [HCS.out]; rfl) HC1.out ?_)
  rw [World.setRow_alloc_new]
  obtain ⟨w2, hw2⟩ : ∃ w2, w2 = w1.alloc (.cells cs 145) := ⟨_, rfl⟩
  rw [← hw2]
  have HS2 := Lib.hid (show Bk w2 w1.heap.size 145 cs by rw [hw2]; exact Bk.new _ _ _)
  have HK2 := Lib.hid (show Bk w2 w.heap.size 51 ms by rw [hw2]; exact HK1.out.alloc _)
  have HB2 := Lib.hid (show Below w.heap.size w w2 by rw [hw2]; exact HB1.out.alloc HB1.out.size _)
  obtain ⟨g5, hg5⟩ : ∃ g5, g5 = w1.heap.size := ⟨_, rfl⟩
  rw [← hg5] at HS2 ⊢
  clear hw2 hg5 hz1 HK1 HB1
  go_wp2_with fail
  go_ret3
  exact ⟨rfl, HB2.out⟩
set_option maxHeartbeats 4000000 in
theorem mput_tx_no (m : Msgs.Msg) (A A1 A2 : Option Addr) (c c1 c2 B : Nat) (w : World) (h : MsgAt w B m A c A1 c1 A2 c2) (hB : B ≤ w.heap.size) (hE : Msgs.errOf m = 0) (htx : (Msgs.shp m.kind).tx = true) (hf : Txs.form m.tx = false) :
    Calls Tryd.prog 45 #[msgV m A c A1 c1 A2 c2] w fun e w' => e = .returned (.tuple #[.string ⟨#[]⟩, .slice none 0 0, .int .i64 5]) ∧ Below w.heap.size w w' := by
  have HC := Lib.hid (fun W (h1 : Below B w W) (h2 : B ≤ W.heap.size) => checked_any m A A1 A2 c c1 c2 B W (h.below h1) h2)
  obtain ⟨ms, hms⟩ : ∃ ms : Array Value, ms = #[.int .i64 m.kind, .int .u64 (m.n : Int), .int .u32 (m.code : Int), .slice A m.ids.length c, .int .u32 (m.tx.version : Int), .slice A1 m.tx.ins.length c1, .slice A2 m.tx.outs.length c2] := ⟨_, rfl⟩
  have HMS := Lib.hid hms
  have HML := Lib.hid (show ms.size = 7 by rw [hms]; rfl)
  have HSH := Lib.hid (shapeRow_of (Msgs.shp m.kind))
  obtain ⟨cs, hcs⟩ : ∃ cs, cs = shapeCells (Msgs.shp m.kind) := ⟨_, rfl⟩
  unfold msgV at HC ⊢
  rw [← hms] at HC ⊢
  rw [← hcs] at HC HSH
  have HCS := Lib.hid (show cs.size = 7 by rw [hcs]; rfl)
  have HC1 := Lib.hid (show cs.all (·.oneCell') = true by rw [hcs]; simp [shapeCells, Value.oneCell'])
  have HT := Lib.hid (fun W (h1 : Below B w W) (h2 : B ≤ W.heap.size) => T7.put_no m.tx A1 A2 c1 c2 B W (h.tx.below h1) h2 hf)
  unfold txV at HT
  rw [hE] at HC
  have HTX := Lib.hid htx
  clear hE htx h hf
  generalize (⟨(Msgs.shp m.kind).cmd.toArray⟩ : ByteArray) = str at *
  generalize (m.tx.version : Int) = ver at *
  generalize m.tx.ins.length = ni at *
  generalize m.tx.outs.length = no at *
  obtain ⟨w0, hw0⟩ : ∃ w0, w0 = w.alloc (.cells ms 51) := ⟨_, rfl⟩
  have HK0 := Lib.hid (show Bk w0 w.heap.size 51 ms by rw [hw0]; exact Bk.new _ _ _)
  have HB0 := Lib.hid (show Below w.heap.size w w0 by rw [hw0]; exact Joins.below_alloc1 _ _)
  have HZ0 := Lib.hid (show w0.heap.size = w.heap.size + 1 by rw [hw0]; simp)
  clear hcs hms
  go_enter Tryd.func45, Tryd.ntmps45
  go_upto_region 1 with (fail)
  rw [← hw0]
  clear hw0
  go_wp2_with (refine wpList_load_row rfl 51 (.tmp 1) rfl w.heap.size (by rfl) 51 ms (0, 0) _ HK0.out Tryd.underlying51 rfl (by rw [HML.out]; exact size_msg) ?_)
  refine (HC.out _ (HB0.out.mono hB) (by rw [HZ0.out]; omega)).mono ?_
  rintro e w1 ⟨rfl, hb1⟩
  have HK1 := Lib.hid (HK0.out.below hb1 (by rw [HZ0.out]; omega))
  have HB1 := Lib.hid (HB0.out.trans (hb1.mono HB0.out.size))
  have hz1 : w.heap.size + 1 ≤ w1.heap.size := by have := hb1.size; rw [HZ0.out] at this; exact this
  clear hb1 HK0 HB0 HZ0 HC
  go_upto_region 2 with (refine wpList_store_row rfl 145 (.tmp 5) (.tmp 13) rfl w1.heap.size cs (by rfl) (by rfl) 145 _ (Bk.new _ _ _) (by rw [HCS.out]; exact size_shape) (by rw [HCS.out]; rfl) HC1.out ?_)
  rw [World.setRow_alloc_new]
  obtain ⟨w2, hw2⟩ : ∃ w2, w2 = w1.alloc (.cells cs 145) := ⟨_, rfl⟩
  rw [← hw2]
  have HS2 := Lib.hid (show Bk w2 w1.heap.size 145 cs by rw [hw2]; exact Bk.new _ _ _)
  have HK2 := Lib.hid (show Bk w2 w.heap.size 51 ms by rw [hw2]; exact HK1.out.alloc _)
  have HB2 := Lib.hid (show Below w.heap.size w w2 by rw [hw2]; exact HB1.out.alloc HB1.out.size _)
  obtain ⟨g5, hg5⟩ : ∃ g5, g5 = w1.heap.size := ⟨_, rfl⟩
  rw [← hg5] at HS2 ⊢
  clear hw2 hg5 hz1 HK1 HB1
  have s6 : w2.cell? ⟨g5, 6, none⟩ = some (.bool true) := by rw [HS2.out.cell, HSH.out, HTX.out]; rfl
  have s0 : w2.cell? ⟨g5, 0, none⟩ = some (.string str) := by rw [HS2.out.cell, HSH.out]; rfl
  have m4 : w2.cell? ⟨w.heap.size, 4, none⟩ = some (.int .u32 ver) := by rw [HK2.out.cell, HMS.out]; rfl
  have m5 : w2.cell? ⟨w.heap.size, 5, none⟩ = some (.slice A1 ni c1) := by rw [HK2.out.cell, HMS.out]; rfl
  have m6 : w2.cell? ⟨w.heap.size, 6, none⟩ = some (.slice A2 no c2) := by rw [HK2.out.cell, HMS.out]; rfl
  go_wp2_with fail
  refine (HT.out _ (HB2.out.mono hB) (by have := HB2.out.size; omega)).mono ?_
  rintro e w3 ⟨rfl, hb3⟩
  have HB3 := Lib.hid (HB2.out.trans (hb3.mono HB2.out.size))
  clear hb3 s6 s0 m4 m5 m6
  go_wp2_with fail
  go_ret3
  exact ⟨rfl, HB3.out⟩
set_option maxHeartbeats 4000000 in
theorem mput_tx_yes (m : Msgs.Msg) (A A1 A2 : Option Addr) (c c1 c2 B : Nat) (w : World) (h : MsgAt w B m A c A1 c1 A2 c2) (hB : B ≤ w.heap.size) (hE : Msgs.errOf m = 0) (htx : (Msgs.shp m.kind).tx = true) (hf : Txs.form m.tx = true) :
    Calls Tryd.prog 45 #[msgV m A c A1 c1 A2 c2] w fun e w' => ∃ v, e = .returned (.tuple #[.string ⟨(Msgs.shp m.kind).cmd.toArray⟩, v, .int .i64 0]) ∧ OwnB w' w.heap.size v (Txs.bytes m.tx) ∧ Below w.heap.size w w' := by
  have HC := Lib.hid (fun W (h1 : Below B w W) (h2 : B ≤ W.heap.size) => checked_any m A A1 A2 c c1 c2 B W (h.below h1) h2)
  obtain ⟨ms, hms⟩ : ∃ ms : Array Value, ms = #[.int .i64 m.kind, .int .u64 (m.n : Int), .int .u32 (m.code : Int), .slice A m.ids.length c, .int .u32 (m.tx.version : Int), .slice A1 m.tx.ins.length c1, .slice A2 m.tx.outs.length c2] := ⟨_, rfl⟩
  have HMS := Lib.hid hms
  have HML := Lib.hid (show ms.size = 7 by rw [hms]; rfl)
  have HSH := Lib.hid (shapeRow_of (Msgs.shp m.kind))
  obtain ⟨cs, hcs⟩ : ∃ cs, cs = shapeCells (Msgs.shp m.kind) := ⟨_, rfl⟩
  unfold msgV at HC ⊢
  rw [← hms] at HC ⊢
  rw [← hcs] at HC HSH
  have HCS := Lib.hid (show cs.size = 7 by rw [hcs]; rfl)
  have HC1 := Lib.hid (show cs.all (·.oneCell') = true by rw [hcs]; simp [shapeCells, Value.oneCell'])
  have HT := Lib.hid (fun W (h1 : Below B w W) (h2 : B ≤ W.heap.size) => T7.put_yes m.tx A1 A2 c1 c2 B W (h.tx.below h1) h2 hf)
  unfold txV at HT
  rw [hE] at HC
  have HTX := Lib.hid htx
  clear hE htx h hf
  generalize (⟨(Msgs.shp m.kind).cmd.toArray⟩ : ByteArray) = str at *
  generalize (m.tx.version : Int) = ver at *
  generalize m.tx.ins.length = ni at *
  generalize m.tx.outs.length = no at *
  obtain ⟨w0, hw0⟩ : ∃ w0, w0 = w.alloc (.cells ms 51) := ⟨_, rfl⟩
  have HK0 := Lib.hid (show Bk w0 w.heap.size 51 ms by rw [hw0]; exact Bk.new _ _ _)
  have HB0 := Lib.hid (show Below w.heap.size w w0 by rw [hw0]; exact Joins.below_alloc1 _ _)
  have HZ0 := Lib.hid (show w0.heap.size = w.heap.size + 1 by rw [hw0]; simp)
  clear hcs hms
  go_enter Tryd.func45, Tryd.ntmps45
  go_upto_region 1 with (fail)
  rw [← hw0]
  clear hw0
  go_wp2_with (refine wpList_load_row rfl 51 (.tmp 1) rfl w.heap.size (by rfl) 51 ms (0, 0) _ HK0.out Tryd.underlying51 rfl (by rw [HML.out]; exact size_msg) ?_)
  refine (HC.out _ (HB0.out.mono hB) (by rw [HZ0.out]; omega)).mono ?_
  rintro e w1 ⟨rfl, hb1⟩
  have HK1 := Lib.hid (HK0.out.below hb1 (by rw [HZ0.out]; omega))
  have HB1 := Lib.hid (HB0.out.trans (hb1.mono HB0.out.size))
  have hz1 : w.heap.size + 1 ≤ w1.heap.size := by have := hb1.size; rw [HZ0.out] at this; exact this
  clear hb1 HK0 HB0 HZ0 HC
  go_upto_region 2 with (refine wpList_store_row rfl 145 (.tmp 5) (.tmp 13) rfl w1.heap.size cs (by rfl) (by rfl) 145 _ (Bk.new _ _ _) (by rw [HCS.out]; exact size_shape) (by rw [HCS.out]; rfl) HC1.out ?_)
  rw [World.setRow_alloc_new]
  obtain ⟨w2, hw2⟩ : ∃ w2, w2 = w1.alloc (.cells cs 145) := ⟨_, rfl⟩
  rw [← hw2]
  have HS2 := Lib.hid (show Bk w2 w1.heap.size 145 cs by rw [hw2]; exact Bk.new _ _ _)
  have HK2 := Lib.hid (show Bk w2 w.heap.size 51 ms by rw [hw2]; exact HK1.out.alloc _)
  have HB2 := Lib.hid (show Below w.heap.size w w2 by rw [hw2]; exact HB1.out.alloc HB1.out.size _)
  obtain ⟨g5, hg5⟩ : ∃ g5, g5 = w1.heap.size := ⟨_, rfl⟩
  rw [← hg5] at HS2 ⊢
  clear hw2 hg5 hz1 HK1 HB1
  have s6 : w2.cell? ⟨g5, 6, none⟩ = some (.bool true) := by rw [HS2.out.cell, HSH.out, HTX.out]; rfl
  have s0 : w2.cell? ⟨g5, 0, none⟩ = some (.string str) := by rw [HS2.out.cell, HSH.out]; rfl
  have m4 : w2.cell? ⟨w.heap.size, 4, none⟩ = some (.int .u32 ver) := by rw [HK2.out.cell, HMS.out]; rfl
  have m5 : w2.cell? ⟨w.heap.size, 5, none⟩ = some (.slice A1 ni c1) := by rw [HK2.out.cell, HMS.out]; rfl
  have m6 : w2.cell? ⟨w.heap.size, 6, none⟩ = some (.slice A2 no c2) := by rw [HK2.out.cell, HMS.out]; rfl
  go_wp2_with fail
  refine (HT.out _ (HB2.out.mono hB) (by have := HB2.out.size; omega)).mono ?_
  rintro e w3 ⟨v3, rfl, ho3, hb3⟩
  have HO3 := Lib.hid (own_mono ho3 HB2.out.size)
  have t0 : w3.cell? ⟨g5, 0, none⟩ = some (.string str) := ((HS2.out.below hb3 HS2.out.lt).cell 0).trans (by rw [HSH.out]; rfl)
  have HB3 := Lib.hid (HB2.out.trans (hb3.mono HB2.out.size))
  clear ho3 hb3 s6 s0 m4 m5 m6
  go_wp2_with fail
  go_ret3
  exact ⟨v3, rfl, HO3.out, HB3.out⟩
theorem flat_take_le (l : List (List UInt8)) (k : Nat) (h : ∀ x ∈ l, x.length = 32) (hn : l.length ≤ 32) : (l.take k).flatten.length ≤ 1024 := by
  rw [Msgs.flatten_len _ (fun x hx => h x (List.mem_of_mem_take hx)), List.length_take]
  omega
theorem flat_snoc (l : List (List UInt8)) (k : Nat) (h : k < l.length) : (l.take (k + 1)).flatten = (l.take k).flatten ++ l[k] := by
  rw [List.take_succ_eq_append_getElem h, List.flatten_append, List.flatten_singleton]
theorem Msgs_le_snoc (x k : Nat) : Oct.le x (k + 1) = Oct.le x k ++ [UInt8.ofNat (x / 256 ^ k)] := by
  rw [Oct.le_append]; rfl
set_option maxHeartbeats 8000000 in
theorem mput_body (m : Msgs.Msg) (A A1 A2 : Option Addr) (c c1 c2 B : Nat) (w : World) (h : MsgAt w B m A c A1 c1 A2 c2) (hB : B ≤ w.heap.size) (hE : Msgs.errOf m = 0) (htx : (Msgs.shp m.kind).tx = false) :
    Calls Tryd.prog 45 #[msgV m A c A1 c1 A2 c2] w fun e w' => ∃ v, e = .returned (.tuple #[.string ⟨(Msgs.shp m.kind).cmd.toArray⟩, v, .int .i64 0]) ∧ OwnB w' w.heap.size v (Msgs.body m) ∧ Below w.heap.size w w' := by
  have HC := Lib.hid (fun W (h1 : Below B w W) (h2 : B ≤ W.heap.size) => checked_any m A A1 A2 c c1 c2 B W (h.below h1) h2)
  obtain ⟨ms, hms⟩ : ∃ ms : Array Value, ms = #[.int .i64 m.kind, .int .u64 (m.n : Int), .int .u32 (m.code : Int), .slice A m.ids.length c, .int .u32 (m.tx.version : Int), .slice A1 m.tx.ins.length c1, .slice A2 m.tx.outs.length c2] := ⟨_, rfl⟩
  have HMS := Lib.hid hms
  have HML := Lib.hid (show ms.size = 7 by rw [hms]; rfl)
  have HSH := Lib.hid (shapeRow_of (Msgs.shp m.kind))
  obtain ⟨cs, hcs⟩ : ∃ cs, cs = shapeCells (Msgs.shp m.kind) := ⟨_, rfl⟩
  unfold msgV at HC ⊢
  rw [← hms] at HC ⊢
  rw [← hcs] at HC HSH
  have HCS := Lib.hid (show cs.size = 7 by rw [hcs]; rfl)
  have HC1 := Lib.hid (show cs.all (·.oneCell') = true by rw [hcs]; simp [shapeCells, Value.oneCell'])
  have hok := h.ok
  have hft := Msgs.fits_iff.1 hE
  have hfa := Msgs.facts m.kind
  have hn32 : m.ids.length ≤ 32 := by
    have h1 := hft.idsm
    cases hq : (Msgs.shp m.kind).count
    · have := hfa.ids hq; omega
    · have := (hfa.count hq).2.2; omega
  have hsc : (Msgs.shp m.kind).code ≤ 4 := hfa.code
  have hsn : (Msgs.shp m.kind).n ≤ 8 := by rcases hfa.n with h | h <;> omega
  have HMN := Lib.hid hok.n
  have HMC := Lib.hid hok.code
  have HOKI := Lib.hid hok.ids
  have HI := Lib.hid h.ids
  have HBODY := Lib.hid (show Msgs.body m = (if (Msgs.shp m.kind).count then Oct.var m.ids.length else []) ++ (m.ids.flatten ++ (Oct.le m.code (Msgs.shp m.kind).code ++ Oct.le m.n (Msgs.shp m.kind).n)) from rfl)
  have HFL := Lib.hid (fun k => flat_take_le m.ids k hok.ids hn32)
  have HTX := Lib.hid htx
  rw [hE] at HC
  clear hE htx h hok hft hfa
  generalize (⟨(Msgs.shp m.kind).cmd.toArray⟩ : ByteArray) = str at *
  generalize (Msgs.shp m.kind).code = sc at *
  generalize (Msgs.shp m.kind).n = sn at *
  generalize (Msgs.shp m.kind).count = sq at *
  generalize Msgs.body m = body at *
  obtain ⟨ids, hids⟩ : ∃ ids, ids = m.ids := ⟨_, rfl⟩
  rw [← hids] at HI HBODY HFL HMS HOKI hms hn32
  clear hids
  obtain ⟨n, hn'⟩ : ∃ n, n = ids.length := ⟨_, rfl⟩
  rw [← hn'] at HMS hms HBODY hn32
  have HN := Lib.hid hn'
  clear hn'
  generalize m.n = mn at *
  generalize m.code = mc at *
  generalize (m.tx.version : Int) = ver at *
  generalize m.tx.ins.length = ni at *
  generalize m.tx.outs.length = no at *
  obtain ⟨zs, hzs⟩ : ∃ zs, zs = bytesArr (List.replicate 32 (0 : UInt8)) := ⟨_, rfl⟩
  have HZH := Lib.hid (show (Tryd.prog.info? 93).map (·.zero) = some (some (.agg zs)) by rw [hzs]; exact zero_hash)
  have HZHL := Lib.hid (show zs.size = 32 by rw [hzs]; simp [bytesArr])
  obtain ⟨i0, hi, hz0, hz1, hz2⟩ := info_parts byte_info
  have Hi := Lib.hid hi
  have Hz := Lib.hid hz0
  have Hz1 := Lib.hid hz1
  have Hz2 := Lib.hid hz2
  clear hi hz0 hz1 hz2 hzs
  obtain ⟨w0, hw0⟩ : ∃ w0, w0 = w.alloc (.cells ms 51) := ⟨_, rfl⟩
  have HK0 := Lib.hid (show Bk w0 w.heap.size 51 ms by rw [hw0]; exact Bk.new _ _ _)
  have HB0 := Lib.hid (show Below w.heap.size w w0 by rw [hw0]; exact Joins.below_alloc1 _ _)
  have HZ0 := Lib.hid (show w0.heap.size = w.heap.size + 1 by rw [hw0]; simp)
  clear hcs hms
  go_enter Tryd.func45, Tryd.ntmps45
  go_upto_region 1 with (fail)
  rw [← hw0]
  clear hw0
  go_wp2_with (refine wpList_load_row rfl 51 (.tmp 1) rfl w.heap.size (by rfl) 51 ms (0, 0) _ HK0.out Tryd.underlying51 rfl (by rw [HML.out]; exact size_msg) ?_)
  refine (HC.out _ (HB0.out.mono hB) (by rw [HZ0.out]; omega)).mono ?_
  rintro e w1 ⟨rfl, hb1⟩
  have HK1 := Lib.hid (HK0.out.below hb1 (by rw [HZ0.out]; omega))
  have HB1 := Lib.hid (HB0.out.trans (hb1.mono HB0.out.size))
  have hz1 : w.heap.size + 1 ≤ w1.heap.size := by have := hb1.size; rw [HZ0.out] at this; exact this
  clear hb1 HK0 HB0 HZ0 HC
  go_upto_region 2 with (refine wpList_store_row rfl 145 (.tmp 5) (.tmp 13) rfl w1.heap.size cs (by rfl) (by rfl) 145 _ (Bk.new _ _ _) (by rw [HCS.out]; exact size_shape) (by rw [HCS.out]; rfl) HC1.out ?_)
  rw [World.setRow_alloc_new]
  obtain ⟨w2, hw2⟩ : ∃ w2, w2 = w1.alloc (.cells cs 145) := ⟨_, rfl⟩
  rw [← hw2]
  have HS2 := Lib.hid (show Bk w2 w1.heap.size 145 cs by rw [hw2]; exact Bk.new _ _ _)
  have HK2 := Lib.hid (show Bk w2 w.heap.size 51 ms by rw [hw2]; exact HK1.out.alloc _)
  have HB2 := Lib.hid (show Below w.heap.size w w2 by rw [hw2]; exact HB1.out.alloc HB1.out.size _)
  obtain ⟨g5, hg5⟩ : ∃ g5, g5 = w1.heap.size := ⟨_, rfl⟩
  rw [← hg5] at HS2 ⊢
  clear hw2 hg5 hz1 HK1 HB1
  have s6 : w2.cell? ⟨g5, 6, none⟩ = some (.bool false) := by rw [HS2.out.cell, HSH.out, HTX.out]; rfl
  have s5 : w2.cell? ⟨g5, 5, none⟩ = some (.bool sq) := by rw [HS2.out.cell, HSH.out]; rfl
  have m3 : w2.cell? ⟨w.heap.size, 3, none⟩ = some (.slice A n c) := by rw [HK2.out.cell, HMS.out]; rfl
  have HI2 := Lib.hid (show HashesAt w2 B A ids from At.below HI.out (HB2.out.mono hB))
  have hB2 : B ≤ w2.heap.size := by have := HB2.out.size; omega
  obtain ⟨pre, hpre⟩ : ∃ pre, pre = (if sq then Oct.var n else []) := ⟨_, rfl⟩
  have HPRE := Lib.hid hpre
  have HPL := Lib.hid (show pre.length ≤ 1 by
    rw [hpre]
    split
    · rw [Oct.var_length]; unfold Oct.size; rw [if_pos (by omega)]; exact Nat.le_refl _
    · simp)
  rw [← hpre] at HBODY
  clear hpre HI
  cases sq
  focus
    obtain ⟨v4, hv4⟩ : ∃ v4 : Value, v4 = .slice none 0 0 := ⟨_, rfl⟩
    obtain ⟨w4, hw4⟩ : ∃ w4 : World, w4 = w2 := ⟨_, rfl⟩
    have HO4 := Lib.hid (show OwnB w4 w2.heap.size v4 pre by rw [HPRE.out, hw4, hv4]; exact own_nil _ _)
    have HG4 := Lib.hid (show Grw w2 w4 (.slice none 0 0) v4 by rw [hw4, hv4]; exact Grw.refl _ _)
    go_upto_region 11 with (fail)
    rw [← hw4, ← hv4]
    clear hw4 hv4
  rotate_left
  focus
    go_wp2_with fail
    refine (ovar_small n (by omega) _).mono ?_
    rintro e w3 ⟨v3, rfl, ho3, hb3⟩
    obtain ⟨A3, c3, rfl, _, hm3, hat3, _⟩ := OwnB.at_ ho3
    have HSRC3 := Lib.hid (BytesAt.src hat3)
    have HVL := Lib.hid (show (Oct.var n).length = 1 by rw [Oct.var_length]; unfold Oct.size; rw [if_pos (by omega)])
    have HB3 := Lib.hid hb3
    have hz3 := hb3.size
    clear ho3 hat3 hb3
    rw [HVL.out]
    go_upto_region 11 with (at_builtin; refine wpList_app _ rfl (.tmp 34) (.tmp 39) _ rfl w2.heap.size 5 i0 _ 1 1 Tryd.underlying22 Hi.out Hz.out Hz1.out Hz2.out rfl (by decide) (.slice none 0 0) ([] : List UInt8).length (([] : List UInt8).map byteV) rfl (own_nil _ _) A3 1 c3 ((Oct.var n).map byteV) rfl (by rw [List.length_map, HVL.out]) HSRC3.out (oneCell_bytes _) (by simp [maxLen]) (by simp) (by exact hz3) ?_; intro v4 w4 hrow4 hg4 hat4)
    have HO4 := Lib.hid (show OwnB w4 w2.heap.size v4 pre by
      rw [HPRE.out]
      have := own_app (bs := []) hrow4 rfl HVL.out.symm
      rwa [List.nil_append] at this)
    have HG4 := Lib.hid (show Grw w2 w4 (.slice none 0 0) v4 from (Grw.of_below HB3.out _).trans (Grw.of_app hg4 hat4))
    clear hrow4 hg4 hat4 hz3 HB3 HSRC3
  all_goals
    clear m3 s5 s6
    have HK4 := Lib.hid (HG4.out.bk HK2.out (by simp [Value.ownBlock]))
    have HS4 := Lib.hid (HG4.out.bk HS2.out (by simp [Value.ownBlock]))
    have hz4 := HG4.out.kp.size
    have m3 : w4.cell? ⟨w.heap.size, 3, none⟩ = some (.slice A n c) := by rw [HK4.out.1.cell, HMS.out]; rfl
    go_wp2_with fail
    go_loopw [3, 44] (fun v i wr => ∃ k : Nat, k ≤ n ∧ i = .int .i64 (k : Int) ∧ Hid (OwnB wr w2.heap.size v (pre ++ (ids.take k).flatten)) ∧ Hid (Grw w2 wr (.slice none 0 0) v)) (fun _ i _ => n - (intOf i).toNat)
    case atStart => exact ⟨0, Nat.zero_le _, rfl, Lib.hid (by simpa using HO4.out), HG4⟩
    case round =>
      obtain ⟨k, hk, rfl, hob, hgr⟩ := hrel
      have HBL := Lib.hid (hgr.out.below (own_nil w2 w2.heap.size) (Nat.le_refl _) (Nat.le_refl _))
      by_cases hlt : k < n
      · have hlt2 : k < ids.length := by rw [← HN.out]; exact hlt
        obtain ⟨b, off, rfl, hbB, hr, hxl⟩ := HashesAt.range (At.below HI2.out (HBL.out.mono hB2)) hlt2
        have HR := Lib.hid hr
        have HXL := Lib.hid hxl
        have HSN := Lib.hid (flat_snoc ids k hlt2)
        have hpl : (pre ++ (ids.take k).flatten).length ≤ 1025 := by
          rw [List.length_append]
          have := HFL.out k
          have := HPL.out
          omega
        clear hr hxl
        generalize ids[k] = x at *
        obtain ⟨P, hP⟩ : ∃ P, P = pre ++ (ids.take k).flatten := ⟨_, rfl⟩
        rw [← hP] at hob hpl
        have HP := Lib.hid hP
        obtain ⟨cx, hcx⟩ : ∃ cx, cx = x.map byteV := ⟨_, rfl⟩
        have HCX := Lib.hid hcx
        have HCL := Lib.hid (show cx.length = 32 by rw [hcx, List.length_map, HXL.out])
        have HCO := Lib.hid (show ∀ u ∈ cx, u.oneCell' = true by rw [hcx]; exact oneCell_bytes _)
        rw [← hcx] at HR
        have HOWN := Lib.hid (own_below hob.out (Joins.below_alloc1 wr (.cells cx.toArray 93)))
        have HSRC := Lib.hid (Src.new wr cx 93)
        have hws := hgr.out.kp.size
        clear hP hcx
        go_wp2_with (first
          | (refine wpList_elem rfl rfl rfl 93 (.tmp 46) (.tmp 7) (.tmp 47) rfl rfl rfl b (off + k * 32) (by rfl) cx _ HR.out Tryd.underlying93 rfl (by rw [HCL.out]; exact size_hash) zs HZH.out (by rw [HZHL.out, HCL.out]) HCO.out (by rfl) (by rfl) ?_)
          | (at_builtin; refine wpList_app _ rfl (.tmp 48) (.tmp 49) _ rfl w2.heap.size 5 i0 _ 1 1 Tryd.underlying22 Hi.out Hz.out Hz1.out Hz2.out rfl (by decide) u3 P.length (P.map byteV) rfl HOWN.out (some ⟨wr.heap.size, 0, none⟩) 32 32 cx rfl (by rw [HCL.out]) HSRC.out HCO.out (by unfold maxLen; omega) (by omega) (by simp; omega) ?_; intro v5 w5 hrow5 hg5 hat5))
        go_roundw
        case rel =>
          refine ⟨k + 1, by omega, by go_num, Lib.hid ?_, Lib.hid (hgr.out.trans ((Grw.of_below (Joins.below_alloc1 _ _) _).trans (Grw.of_app hg5 hat5)))⟩
          have := own_app hrow5 HCX.out HXL.out.symm
          rw [HSN.out, ← List.append_assoc, ← HP.out]
          exact this
        case measure => simp [intOf]; omega
      · have hkn : k = n := by omega
        have HTK := Lib.hid (show ids.take k = ids from List.take_of_length_le (by rw [hkn, HN.out]; exact Nat.le_refl _))
        have hob' := hob.out
        rw [HTK.out] at hob'
        obtain ⟨P, hP⟩ : ∃ P, P = pre ++ ids.flatten := ⟨_, rfl⟩
        rw [← hP] at hob'
        have HPP := Lib.hid hP
        have HOB := Lib.hid hob'
        have hpl : P.length ≤ 1025 := by
          rw [hP, List.length_append]
          have h1 := HFL.out n
          rw [← hkn, HTK.out] at h1
          have := HPL.out
          omega
        have HGR := hgr
        clear hkn hP hob' hob HTK HO4 HG4 HK4 HS4 m3 hgr
        have HKR := Lib.hid (HGR.out.bk HK2.out (by simp [Value.ownBlock]))
        have HSR := Lib.hid (HGR.out.bk HS2.out (by simp [Value.ownBlock]))
        have hws := HGR.out.kp.size
        have s1 : wr.cell? ⟨g5, 1, none⟩ = some (.int .i64 (sc : Int)) := by rw [HSR.out.1.cell, HSH.out]; rfl
        go_wp2_with fail
        go_loopw [3, 54] (fun v i wr => ∃ j : Nat, j ≤ sc ∧ i = .int .i64 (j : Int) ∧ Hid (OwnB wr w2.heap.size v (P ++ Oct.le mc j)) ∧ Hid (Grw w2 wr (.slice none 0 0) v)) (fun _ i _ => sc - (intOf i).toNat)
        case atStart => exact ⟨0, Nat.zero_le _, rfl, Lib.hid (by simpa [Oct.le] using HOB.out), HGR⟩
        case round =>
          obtain ⟨j, hj, rfl, hob, hgr⟩ := hrel
          have HKJ := Lib.hid (hgr.out.bk HK2.out (by simp [Value.ownBlock]))
          have HSJ := Lib.hid (hgr.out.bk HS2.out (by simp [Value.ownBlock]))
          have hwj := hgr.out.kp.size
          by_cases hlt : j < sc
          · have HLE := Lib.hid (Msgs_le_snoc mc j)
            have HBV := Lib.hid (byteV_shr8 mc j)
            have hle := Oct.le_length mc j
            have hQl : (P ++ Oct.le mc j).length ≤ 1040 := by rw [List.length_append, hle]; omega
            obtain ⟨Q, hQ⟩ : ∃ Q, Q = P ++ Oct.le mc j := ⟨_, rfl⟩
            rw [← hQ] at hob hQl
            have HQ := Lib.hid hQ
            clear hQ hle
            have m2 : wr.cell? ⟨w.heap.size, 2, none⟩ = some (.int .u32 (mc : Int)) := by rw [HKJ.out.1.cell, HMS.out]; rfl
            go_wp2_with (at_builtin; refine wpList_app _ rfl (.tmp 57) (.tmp 65) _ rfl w2.heap.size 5 i0 _ 1 1 Tryd.underlying22 Hi.out Hz.out Hz1.out Hz2.out rfl (by decide) u3 Q.length (Q.map byteV) rfl (own_below hob.out (Joins.below_alloc1 _ _)) (some ⟨wr.heap.size, 0, none⟩) 1 1 [.int .u8 ((mc : Int) / 2 ^ (8 * j) % 256)] rfl rfl (Src.one _ _ _) (fun u hu => by rw [List.mem_singleton.1 hu]; rfl) (by unfold maxLen; omega) (by omega) (by simp; omega) ?_; intro v6 w6 hrow6 hg6 hat6)
            go_roundw
            case rel =>
              refine ⟨j + 1, by omega, by go_num, Lib.hid ?_, Lib.hid (hgr.out.trans ((Grw.of_below (Joins.below_alloc1 _ _) _).trans (Grw.of_app hg6 hat6)))⟩
              have := own_app hrow6 (show _ = [UInt8.ofNat (mc / 256 ^ j)].map byteV from congrArg (fun u => [u]) HBV.out) rfl
              rw [HLE.out, ← List.append_assoc, ← HQ.out]
              exact this
            case measure => simp [intOf]; omega
          · obtain rfl : j = sc := by omega
            obtain ⟨P1, hP1⟩ : ∃ P1, P1 = P ++ Oct.le mc j := ⟨_, rfl⟩
            rw [← hP1] at hob
            have HQ1 := Lib.hid hP1
            have hpl1 : P1.length ≤ 1030 := by rw [hP1, List.length_append, Oct.le_length]; omega
            have HOB3 := hob
            have HGR3 := hgr
            clear hP1 hob hgr HOB HGR HKR HSR
            have s2 : wr.cell? ⟨g5, 2, none⟩ = some (.int .i64 (sn : Int)) := by rw [HSJ.out.1.cell, HSH.out]; rfl
            go_wp2_with fail
            go_loopw [3, 70] (fun v i wr => ∃ j : Nat, j ≤ sn ∧ i = .int .i64 (j : Int) ∧ Hid (OwnB wr w2.heap.size v (P1 ++ Oct.le mn j)) ∧ Hid (Grw w2 wr (.slice none 0 0) v)) (fun _ i _ => sn - (intOf i).toNat)
            case atStart => exact ⟨0, Nat.zero_le _, rfl, Lib.hid (by simpa [Oct.le] using HOB3.out), HGR3⟩
            case round =>
              obtain ⟨j, hj, rfl, hob, hgr⟩ := hrel
              have HKJ := Lib.hid (hgr.out.bk HK2.out (by simp [Value.ownBlock]))
              have HSJ := Lib.hid (hgr.out.bk HS2.out (by simp [Value.ownBlock]))
              have hwj := hgr.out.kp.size
              by_cases hlt : j < sn
              · have HLE := Lib.hid (Msgs_le_snoc mn j)
                have HBV := Lib.hid (byteV_shr8 mn j)
                have hle := Oct.le_length mn j
                have hQl : (P1 ++ Oct.le mn j).length ≤ 1040 := by rw [List.length_append, hle]; omega
                obtain ⟨Q, hQ⟩ : ∃ Q, Q = P1 ++ Oct.le mn j := ⟨_, rfl⟩
                rw [← hQ] at hob hQl
                have HQ := Lib.hid hQ
                clear hQ hle
                have m1 : wr.cell? ⟨w.heap.size, 1, none⟩ = some (.int .u64 (mn : Int)) := by rw [HKJ.out.1.cell, HMS.out]; rfl
                go_wp2_with (at_builtin; refine wpList_app _ rfl (.tmp 73) (.tmp 81) _ rfl w2.heap.size 5 i0 _ 1 1 Tryd.underlying22 Hi.out Hz.out Hz1.out Hz2.out rfl (by decide) u3 Q.length (Q.map byteV) rfl (own_below hob.out (Joins.below_alloc1 _ _)) (some ⟨wr.heap.size, 0, none⟩) 1 1 [.int .u8 ((mn : Int) / 2 ^ (8 * j) % 256)] rfl rfl (Src.one _ _ _) (fun u hu => by rw [List.mem_singleton.1 hu]; rfl) (by unfold maxLen; omega) (by omega) (by simp; omega) ?_; intro v6 w6 hrow6 hg6 hat6)
                go_roundw
                case rel =>
                  refine ⟨j + 1, by omega, by go_num, Lib.hid ?_, Lib.hid (hgr.out.trans ((Grw.of_below (Joins.below_alloc1 _ _) _).trans (Grw.of_app hg6 hat6)))⟩
                  have := own_app hrow6 (show _ = [UInt8.ofNat (mn / 256 ^ j)].map byteV from congrArg (fun u => [u]) HBV.out) rfl
                  rw [HLE.out, ← List.append_assoc, ← HQ.out]
                  exact this
                case measure => simp [intOf]; omega
              · obtain rfl : j = sn := by omega
                have HEND := Lib.hid (HB2.out.trans ((hgr.out.below (own_nil w2 w2.heap.size) (Nat.le_refl _) (Nat.le_refl _)).mono HB2.out.size))
                have HOZ := hob
                have s0 : wr.cell? ⟨g5, 0, none⟩ = some (.string str) := by rw [HSJ.out.1.cell, HSH.out]; rfl
                clear hob hgr
                go_wp2_with fail
                go_ret3
                have h8 := HOZ.out
                rw [HQ1.out, HPP.out] at h8
                have h9 : OwnB wr w2.heap.size u3 body := by
                  rw [HBODY.out]
                  simpa only [List.append_assoc] using h8
                exact ⟨u3, rfl, own_mono h9 HB2.out.size, HEND.out⟩
/-- a message's command and body -/
def PutOut (w w' : World) (r : List UInt8 × List UInt8 × Int) (e : Ending) : Prop :=
  ∃ v, e = .returned (.tuple #[.string ⟨r.1.toArray⟩, v, .int .i64 r.2.2]) ∧ OwnB w' w.heap.size v r.2.1 ∧ Below w.heap.size w w'
theorem mput_any (m : Msgs.Msg) (A A1 A2 : Option Addr) (c c1 c2 B : Nat) (w : World) (h : MsgAt w B m A c A1 c1 A2 c2) (hB : B ≤ w.heap.size)  :
    Calls Tryd.prog 45 #[msgV m A c A1 c1 A2 c2] w fun e w' => PutOut w w' (Msgs.put m) e := by
  by_cases hE : Msgs.errOf m = 0
  · cases htx : (Msgs.shp m.kind).tx
    · rw [show Msgs.put m = ((Msgs.shp m.kind).cmd, Msgs.body m, 0) by unfold Msgs.put; rw [if_neg (by simp [hE]), if_neg (by simp [htx])]]
      exact mput_body m A A1 A2 c c1 c2 B w h hB hE htx
    · cases hf : Txs.form m.tx
      · rw [show Msgs.put m = ([], [], 5) by unfold Msgs.put; rw [if_neg (by simp [hE]), if_pos htx, if_neg (by simp [hf])]]
        exact (mput_tx_no m A A1 A2 c c1 c2 B w h hB hE htx hf).mono fun e w' ⟨he, hb⟩ => ⟨.slice none 0 0, he, own_nil _ _, hb⟩
      · rw [show Msgs.put m = ((Msgs.shp m.kind).cmd, Txs.bytes m.tx, 0) by unfold Msgs.put; rw [if_neg (by simp [hE]), if_pos htx, if_pos hf]]
        exact mput_tx_yes m A A1 A2 c c1 c2 B w h hB hE htx hf
  · rw [show Msgs.put m = ([], [], Msgs.errOf m) by unfold Msgs.put; rw [if_pos hE]]
    exact (mput_bad m A A1 A2 c c1 c2 B w h hB hE).mono fun e w' ⟨he, hb⟩ => ⟨.slice none 0 0, he, own_nil _ _, hb⟩
theorem msg_box (w : World) (m : Msgs.Msg) (A A1 A2 : Option Addr) (c c1 c2 : Nat) : ∃ w1 ms, ms = #[.int .i64 m.kind, .int .u64 (m.n : Int), .int .u32 (m.code : Int), .slice A m.ids.length c, .int .u32 (m.tx.version : Int), .slice A1 m.tx.ins.length c1, .slice A2 m.tx.outs.length c2] ∧
    msgV m A c A1 c1 A2 c2 = .agg ms ∧ ms.size = 7 ∧ w1 = w.alloc (.cells ms 51) ∧ Below w.heap.size w w1 ∧ w1.heap.size = w.heap.size + 1 ∧ Bk w1 w.heap.size 51 ms :=
  ⟨_, _, rfl, rfl, rfl, rfl, Joins.below_alloc1 _ _, by simp, Bk.new _ _ _⟩
end Go.Proofs.YtpacgblddeoheaaDoor.M8
