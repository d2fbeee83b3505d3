/- Package msg: a message out of a command and a body. -/
import Derived.Test.YtanjlgkbjcienaaMsgPlain
import Derived.Test.YtanjlgkbjcienaaTxWhole
namespace Go.Proofs.Ytanjlgkbjcienaa.M8
open Go.RowKit Go.Deep T7
set_option linter.unusedVariables false
set_option linter.unusedSimpArgs false
set_option maxRecDepth 100000
attribute [local go_sem ↓] Go.wp_at_zero Go.wp_at_succ

theorem plain_err (k : Int) (b : List UInt8) : (errP (Msgs.shp k) b ≠ 0 → Msgs.plain k b = (Msgs.none, errP (Msgs.shp k) b)) ∧ (errP (Msgs.shp k) b = 0 → Msgs.plain k b = (⟨k, Msgs.numOf (Msgs.shp k) b, Msgs.codeOf (Msgs.shp k) b, Msgs.hashes b (Msgs.shp k).ids, Txs.none⟩, 0)) := by
  unfold errP Msgs.plain
  by_cases h1 : b.length < Msgs.sizeOf (Msgs.shp k)
  · simp only [if_pos h1]; exact ⟨fun _ => trivial, fun h => by cases h⟩
  simp only [if_neg h1]
  by_cases h2 : Msgs.sizeOf (Msgs.shp k) < b.length
  · simp only [if_pos h2]; exact ⟨fun _ => trivial, fun h => by cases h⟩
  simp only [if_neg h2]
  by_cases h3 : (Msgs.shp k).most < Msgs.codeOf (Msgs.shp k) b
  · simp only [if_pos h3]; exact ⟨fun _ => trivial, fun h => by cases h⟩
  simp only [if_neg h3]
  exact ⟨fun h => absurd rfl h, fun _ => trivial⟩
theorem str_ne (l : List UInt8) (s : ByteArray) (h : l = s.data.toList) : ((⟨l.toArray⟩ : ByteArray)) = s := by
  subst h
  simp
def zeroM : Array Value := #[.int .i64 0, .int .u64 0, .int .u32 0, .slice none 0 0, .int .u32 0, .slice none 0 0, .slice none 0 0]
theorem zeroM_one : zeroM.all (·.oneCell') = true := by simp [zeroM, Value.oneCell']
theorem msgV_cells {m : Msgs.Msg} {A A1 A2 : Option Addr} {c c1 c2 : Nat} {mm : Array Value} (h : msgV m A c A1 c1 A2 c2 = .agg mm) : mm.size = 7 ∧ mm.all (·.oneCell') = true := by
  unfold msgV at h
  injection h with h
  subst h
  exact ⟨rfl, by simp [Value.oneCell']⟩
/-- what a branch of Get has read -/
structure GetMid (w w' : World) (g gm : Nat) (r : Msgs.Msg × Int) (er : Int) : Prop where
  res : Bk w' g 32 zeroM
  below : Below w.heap.size w w'
  bad : er ≠ 0 → r = (Msgs.none, er)
  good : er = 0 → ∃ mm A c A1 c1 A2 c2 m, r = (m, 0) ∧ Bk w' gm 32 mm ∧ msgV m A c A1 c1 A2 c2 = .agg mm ∧ ∀ wz, Kp (fun i => i = g) w' wz → MsgAt wz wz.heap.size m A c A1 c1 A2 c2
set_option maxHeartbeats 8000000 in
theorem get_any (cmd : ByteArray) (A : Option Addr) (L c B : Nat) (b : List UInt8) (w : World) (hl : b.length = L) (hc : L ≤ c) (hm : c ≤ maxLen) (hn : L ≤ 140737488351232) (hat : BytesAt w B A b) (hB : B ≤ w.heap.size) :
    Calls Try.prog 10 #[.string cmd, .slice A L c] w fun e w' => MsgOut w w' (Msgs.get cmd.data.toList b) e := by
  have HAT := Lib.hid hat
  have HWH := Lib.hid (fun W (h1 : Below B w W) (h2 : B ≤ W.heap.size) => whole_any A L c B b W hl hc hm hn (At.below hat h1) h2)
  have HMN := Lib.hid (fun W (h1 : Below B w W) (h2 : B ≤ W.heap.size) => many_any A L c B b W hl hc hm (At.below hat h1) h2)
  have HPL := Lib.hid (fun W (h1 : Below B w W) (h2 : B ≤ W.heap.size) (s : Msgs.Shape) (hs : Msgs.Facts s) (hq : s.count = false) (k : Int) (G : Nat) (hG : Bk W G 32 (mCells k 0 0 (.slice none 0 0) 0 (.slice none 0 0) (.slice none 0 0))) (hBG : B ≤ G) => plain_any s hs hq k G A L c B b W hG hl hc hm (At.below hat h1) h2 hBG)
  obtain ⟨cl, hcl⟩ : ∃ cl, cl = cmd.data.toList := ⟨_, rfl⟩
  rw [← hcl]
  have HCL := Lib.hid hcl
  have HGET := Lib.hid (show Msgs.get cl b = if Msgs.kindOf cl = 0 then (Msgs.none, 8) else Msgs.getOf ((Msgs.kindOf cl : Nat) : Int) b from rfl)
  obtain ⟨w0, hw0⟩ : ∃ w0, w0 = w.alloc (.cells zeroM 32) := ⟨_, rfl⟩
  have hw0' : w0 = w.alloc (.cells #[.int .i64 0, .int .u64 0, .int .u32 0, .slice none 0 0, .int .u32 0, .slice none 0 0, .slice none 0 0] 32) := hw0
  obtain ⟨g, hg⟩ : ∃ g, g = w.heap.size := ⟨_, rfl⟩
  have HR0 := Lib.hid (show Bk w0 g 32 zeroM by rw [hw0, hg]; exact Bk.new _ _ _)
  have HB0 := Lib.hid (show Below w.heap.size w w0 by rw [hw0]; exact Joins.below_alloc1 _ _)
  have HZ0 := Lib.hid (show w0.heap.size = g + 1 by rw [hw0, hg]; simp)
  have hgB : B ≤ g := by omega
  have HG := Lib.hid hg
  have hgw : w.heap.size ≤ g := by omega
  obtain ⟨sz, hsz⟩ : ∃ sz : Array Value, sz = #[.string ⟨#[]⟩, .int .i64 0, .int .i64 0, .int .u32 0, .int .i64 0, .bool false, .bool false] := ⟨_, rfl⟩
  clear hw0 hat hl hcl
  go_enter Try.func10, Try.ntmps10
  go_wp2_with fail
  rw [← hw0', ← hg]
  clear hw0' hg
  go_loopw [6] (fun u wr => ∃ j : Nat, 1 ≤ j ∧ j ≤ 12 ∧ u = .int .i64 (j : Int) ∧ Hid (Msgs.kindOf cl = Msgs.kindFrom cl (12 - j) j) ∧ Hid (Bk wr g 32 zeroM) ∧ Hid (Below w.heap.size w wr ∧ g + 1 ≤ wr.heap.size)) (fun u _ => 12 - (intOf u).toNat)
  case atStart => exact ⟨1, by omega, by omega, rfl, Lib.hid rfl, HR0, Lib.hid ⟨HB0.out, by rw [HZ0.out]; exact Nat.le_refl _⟩⟩
  case round =>
    obtain ⟨j, hj1, hj2, rfl, hkf, hres, hbel⟩ := hrel
    by_cases hlt : j < 12
    · have HSA := Lib.hid (fun W => shapes_any (j : Int) W)
      have hsh : Msgs.shp (j : Int) = Msgs.shN j := rfl
      rw [hsh] at HSA
      have HKF := Lib.hid (show Msgs.kindOf cl = if (Msgs.shN j).cmd = cl then j else Msgs.kindFrom cl (12 - (j + 1)) (j + 1) by
        rw [hkf.out, show 12 - j = (12 - (j + 1)) + 1 by omega]; rfl)
      obtain ⟨s, hs⟩ : ∃ s, s = Msgs.shN j := ⟨_, rfl⟩
      rw [← hs] at HSA HKF
      have HFA := Lib.hid (show Msgs.Facts s by rw [hs]; exact Msgs.facts (j : Int))
      have HSN := Lib.hid hs
      obtain ⟨cs, hcs⟩ : ∃ cs, cs = shapeCells s := ⟨_, rfl⟩
      rw [← hcs] at HSA
      have HSH := Lib.hid hcs
      have HCS := Lib.hid (show cs.size = 7 by rw [hcs]; rfl)
      have HC1 := Lib.hid (show cs.all (·.oneCell') = true by rw [hcs]; simp [shapeCells, Value.oneCell'])
      have HB := Lib.hid hbel.out.1
      have hz := hbel.out.2
      have j1 : (j : Int) ≤ 11 := by omega
      have hkn : Msgs.known (j : Int) = true := Msgs.known_iff.2 ⟨by omega, by omega⟩
      rw [hkn] at HSA
      clear hkf hs hcs hbel hsh hkn hlt
      go_wp2_with fail
      refine (HSA.out _).mono ?_
      rintro e w1 ⟨rfl, hb1⟩
      have HR1 := Lib.hid (hres.out.below hb1 (by omega))
      have HB1 := Lib.hid (HB.out.trans (hb1.mono HB.out.size))
      have hz1 : g + 1 ≤ w1.heap.size := by have := hb1.size; omega
      clear hb1 hres HB HSA
      go_upto_region 5 with (refine wpList_store_row rfl 52 (.tmp 7) (.tmp 18) rfl w1.heap.size cs (by rfl) (by rfl) 52 _ (Bk.new _ _ _) (by rw [HCS.out]; exact size_shape) (by rw [HCS.out]; rfl) HC1.out ?_)
      rw [World.setRow_alloc_new]
      obtain ⟨w2, hw2⟩ : ∃ w2, w2 = w1.alloc (.cells cs 52) := ⟨_, rfl⟩
      rw [← hw2]
      obtain ⟨g7, hg7⟩ : ∃ g7, g7 = w1.heap.size := ⟨_, rfl⟩
      have HS2 := Lib.hid (show Bk w2 g7 52 cs by rw [hw2, hg7]; exact Bk.new _ _ _)
      have HR2 := Lib.hid (show Bk w2 g 32 zeroM by rw [hw2]; exact HR1.out.alloc _)
      have HB2 := Lib.hid (show Below w.heap.size w w2 by rw [hw2]; exact HB1.out.alloc HB1.out.size _)
      have hz2 : w2.heap.size = g7 + 1 := by rw [hw2, hg7]; simp
      have HZ2 := Lib.hid hz2
      have hz2' : g7 + 1 ≤ w2.heap.size := by omega
      have hgg7 : g + 1 ≤ g7 := by omega
      rw [← hg7]
      clear hw2 hg7 hz1 HR1 HB1 hz2 hz
      by_cases hq : s.cmd = cl
      · have HK := Lib.hid (show Msgs.kindOf cl = j by rw [HKF.out, if_pos hq])
        have hseq : (s.cmd == cmd.toList) = true := by rw [ByteArray.toList_eq, ← HCL.out, hq, beq_self_eq_true]
        have HGT := Lib.hid (show Msgs.get cl b = Msgs.getOf (j : Int) b by rw [HGET.out, HK.out, if_neg (by omega)])
        have s0 : w2.cell? ⟨g7, 0, none⟩ = some (.string ⟨s.cmd.toArray⟩) := by rw [HS2.out.cell, HSH.out]; rfl
        clear HKF hq
        go_upto_region 9 with (fail)
        obtain ⟨gm, hgm⟩ : ∃ gm, gm = w2.heap.size := ⟨_, rfl⟩
        obtain ⟨w3, hw3⟩ : ∃ w3, w3 = w2.alloc (.cells (mCells (j : Int) 0 0 (.slice none 0 0) 0 (.slice none 0 0) (.slice none 0 0)) 32) := ⟨_, rfl⟩
        have hw3' : w3 = w2.alloc (.cells #[.int .i64 (j : Int), .int .u64 0, .int .u32 0, .slice none 0 0, .int .u32 0, .slice none 0 0, .slice none 0 0] 32) := hw3
        have HM3 := Lib.hid (show Bk w3 gm 32 (mCells (j : Int) 0 0 (.slice none 0 0) 0 (.slice none 0 0) (.slice none 0 0)) by rw [hw3, hgm]; exact Bk.new _ _ _)
        have HS3 := Lib.hid (show Bk w3 g7 52 cs by rw [hw3]; exact HS2.out.alloc _)
        have HR3 := Lib.hid (show Bk w3 g 32 zeroM by rw [hw3]; exact HR2.out.alloc _)
        have HB3 := Lib.hid (show Below w.heap.size w w3 by rw [hw3]; exact HB2.out.alloc HB2.out.size _)
        have hz3 : gm + 1 ≤ w3.heap.size := by rw [hw3, hgm]; simp
        have hgg : g7 + 1 ≤ gm := by rw [hgm, HZ2.out]; exact Nat.le_refl _
        rw [← hw3', ← hgm]
        clear hw3 hw3' hgm HS2 HR2 HB2 HZ2 hz2' s0 hseq
        obtain ⟨_, _, _, _, s4, s5, s6⟩ := shape_cells (by have := HS3.out; rw [HSH.out] at this; exact this)
        have fm0 := HM3.out.frozen 3
        have fm4 := HM3.out.frozen 4
        have fm5 := HM3.out.frozen 5
        have fm6 := HM3.out.frozen 6
        have m3 : w3.cell? ⟨gm, 3, none⟩ = some (.slice none 0 0) := (HM3.out.cell 3).trans rfl
        have m4 : w3.cell? ⟨gm, 4, none⟩ = some (.int .u32 0) := (HM3.out.cell 4).trans rfl
        have m5 : w3.cell? ⟨gm, 5, none⟩ = some (.slice none 0 0) := (HM3.out.cell 5).trans rfl
        have m6 : w3.cell? ⟨gm, 6, none⟩ = some (.slice none 0 0) := (HM3.out.cell 6).trans rfl
        have HGO := Lib.hid (show Msgs.getOf (j : Int) b = if s.tx = true then (if (Txs.whole b).2 ≠ 0 then (Msgs.none, (Txs.whole b).2) else (⟨(j : Int), 0, 0, [], (Txs.whole b).1⟩, 0)) else if s.count = true then Msgs.many (j : Int) b else Msgs.plain (j : Int) b by rw [HSN.out]; rfl)
        have hcase : s.tx = true ∨ (s.tx = false ∧ s.count = true) ∨ (s.tx = false ∧ s.count = false) := by cases s.tx <;> cases s.count <;> simp
        rcases hcase with h1 | ⟨h1, h2⟩ | ⟨h1, h2⟩
        focus
          have HGX := Lib.hid (show Msgs.get cl b = if (Txs.whole b).2 ≠ 0 then (Msgs.none, (Txs.whole b).2) else (⟨(j : Int), 0, 0, [], (Txs.whole b).1⟩, 0) by rw [HGT.out, HGO.out, if_pos h1])
          rw [h1] at s6
          go_wp2_with fail
          refine (HWH.out _ (HB3.out.mono hB) (by omega)).mono ?_
          rintro e w4 ⟨A1, c1, A2, c2, rfl, hnew, hb4⟩
          unfold txV
          generalize Txs.whole b = q at *
          obtain ⟨tx, er⟩ := q
          simp only at hnew ⊢
          have HTA := Lib.hid (TxNew.at_ hnew)
          have HM4 := Lib.hid (HM3.out.below hb4 HM3.out.lt)
          have HR4 := Lib.hid (HR3.out.below hb4 HR3.out.lt)
          have HB4 := Lib.hid (HB3.out.trans (hb4.mono HB3.out.size))
          have hz4 := hb4.size
          have n4 : w4.cell? ⟨gm, 4, none⟩ = some (.int .u32 0) := (HM4.out.cell 4).trans rfl
          have n5 : w4.cell? ⟨gm, 5, none⟩ = some (.slice none 0 0) := (HM4.out.cell 5).trans rfl
          have n6 : w4.cell? ⟨gm, 6, none⟩ = some (.slice none 0 0) := (HM4.out.cell 6).trans rfl
          have o4 := HM4.out.frozen 4
          have o5 := HM4.out.frozen 5
          have o6 := HM4.out.frozen 6
          have HNEW := Lib.hid hnew
          clear hnew hb4 fm0 fm4 fm5 fm6 m3 m4 m5 m6 s4 s5 s6
          go_upto_region 13 with (fail)
          obtain ⟨w5, hw5⟩ : ∃ w5, w5 = ((w4.setCell ⟨gm, 4, none⟩ (.int .u32 (tx.version : Int))).setCell ⟨gm, 5, none⟩ (.slice A1 tx.ins.length c1)).setCell ⟨gm, 6, none⟩ (.slice A2 tx.outs.length c2) := ⟨_, rfl⟩
          have k45 : Kp (fun i => i = gm) w4 w5 := by rw [hw5]; exact ((kp_cell1 _ _ _ _).trans (kp_cell1 _ _ _ _)).trans (kp_cell1 _ _ _ _)
          have HM5 := Lib.hid (show Bk w5 gm 32 (mCells (j : Int) 0 0 (.slice none 0 0) tx.version (.slice A1 tx.ins.length c1) (.slice A2 tx.outs.length c2)) by rw [hw5]; exact ((HM4.out.set 4 _).set 5 _).set 6 _)
          have HMID := Lib.hid (show GetMid w w5 g gm (Msgs.get cl b) er from ⟨HR4.out.kp k45 (by show ¬ g = gm; omega), Kp.from_elder HB4.out k45 (fun i hi e => by omega), fun he => by rw [HGX.out, if_pos he], fun he => by
            refine ⟨_, none, 0, A1, c1, A2, c2, ⟨(j : Int), 0, 0, [], tx⟩, by rw [HGX.out, if_neg (by simp [he])], HM5.out, rfl, fun wz kz => ⟨by show _ ≤ (j : Int); omega, by show (j : Int) ≤ _; omega, by show (0 : Nat) < _; omega, by show (0 : Nat) < _; omega, Nat.le_refl _, by simp [maxLen], fun i hi => by simp at hi, HNEW.out wz ((k45.mono (fun i _ e => by omega)).trans (kz.mono (fun i _ e => by omega)))⟩⟩⟩)
          rw [← hw5]
          clear hw5 k45 HM5 n4 n5 n6 o4 o5 o6 hz4 HM4 HR4 HB4 HNEW HTA
        rotate_left
        focus
          have HGX := Lib.hid (show Msgs.get cl b = Msgs.many (j : Int) b by rw [HGT.out, HGO.out, if_neg (by simp [h1]), if_pos h2])
          have HFC := Lib.hid (HFA.out.count h2)
          rw [h1] at s6
          rw [h2] at s5
          rw [HFC.out.2.2] at s4
          go_wp2_with fail
          refine (HMN.out _ (HB3.out.mono hB) (by omega)).mono ?_
          rintro e w4 ⟨A1, c1, rfl, hc1, hm1, hh1, hA1, hb4⟩
          have HHS := Lib.hid hh1
          have HME := Lib.hid (many_err (j : Int) b)
          generalize manyI b = q at *
          obtain ⟨ids, er⟩ := q
          simp only at hc1 ⊢
          have HM4 := Lib.hid (HM3.out.below hb4 HM3.out.lt)
          have HR4 := Lib.hid (HR3.out.below hb4 HR3.out.lt)
          have HB4 := Lib.hid (HB3.out.trans (hb4.mono HB3.out.size))
          have hz4 := hb4.size
          have n3 : w4.cell? ⟨gm, 3, none⟩ = some (.slice none 0 0) := (HM4.out.cell 3).trans rfl
          have o3 := HM4.out.frozen 3
          have HA1 := Lib.hid hA1
          clear hh1 hb4 hA1 fm0 fm4 fm5 fm6 m3 m4 m5 m6 s4 s5 s6
          go_upto_region 13 with (fail)
          obtain ⟨w5, hw5⟩ : ∃ w5, w5 = w4.setCell ⟨gm, 3, none⟩ (.slice A1 ids.length c1) := ⟨_, rfl⟩
          have k45 : Kp (fun i => i = gm) w4 w5 := by rw [hw5]; exact kp_cell1 _ _ _ _
          have HM5 := Lib.hid (show Bk w5 gm 32 (mCells (j : Int) 0 0 (.slice A1 ids.length c1) 0 (.slice none 0 0) (.slice none 0 0)) by rw [hw5]; exact HM4.out.set 3 _)
          have HMID := Lib.hid (show GetMid w w5 g gm (Msgs.get cl b) er from ⟨HR4.out.kp k45 (by show ¬ g = gm; omega), Kp.from_elder HB4.out k45 (fun i hi e => by omega), fun he => by rw [HGX.out]; exact HME.out.2.1 he, fun he => by
            refine ⟨_, A1, c1, none, 0, none, 0, ⟨(j : Int), 0, 0, ids, Txs.none⟩, by rw [HGX.out]; exact HME.out.2.2 he, HM5.out, rfl, fun wz kz => ⟨by show _ ≤ (j : Int); omega, by show (j : Int) ≤ _; omega, by show (0 : Nat) < _; omega, by show (0 : Nat) < _; omega, hc1, hm1, hashes_kp (hashes_kp HHS.out k45 (fun a ha => by have := HA1.out a ha; omega)) kz (fun a ha => by have := HA1.out a ha; omega), none_tx _ _⟩⟩⟩)
          rw [← hw5]
          clear hw5 k45 HM5 n3 o3 hz4 HM4 HR4 HB4 HHS hc1 hm1 HA1
        rotate_left
        focus
          have HGX := Lib.hid (show Msgs.get cl b = Msgs.plain (j : Int) b by rw [HGT.out, HGO.out, if_neg (by simp [h1]), if_neg (by simp [h2])])
          have HPE := Lib.hid (plain_err (j : Int) b)
          have hsh : Msgs.shp (j : Int) = Msgs.shN j := rfl
          rw [hsh, ← HSN.out] at HPE
          clear hsh
          rw [h1] at s6
          rw [h2] at s5
          have HPLS := Lib.hid (HPL.out w3 (HB3.out.mono hB) (by omega) s HFA.out h2 (j : Int) gm HM3.out (by omega))
          rw [← HSH.out] at HPLS
          go_wp2_with (refine wpList_load_row rfl 52 (.tmp 7) rfl g7 (by rfl) 52 cs (0, 0) _ HS3.out Try.underlying52 rfl (by rw [HCS.out]; exact size_shape) ?_)
          refine HPLS.out.mono ?_
          rintro e w5 ⟨rfl, hk4, ho4⟩
          generalize errP s b = er at *
          have HMID := Lib.hid (show GetMid w w5 g gm (Msgs.get cl b) er from ⟨HR3.out.kp hk4 (by show ¬ g = gm; omega), Kp.from_elder HB3.out hk4 (fun i hi e => by omega), fun he => by rw [HGX.out]; exact HPE.out.1 he, fun he => by
            obtain ⟨A1, c1, h3, h4, h5, h6, h7⟩ := ho4 he
            have hlen : (Msgs.hashes b s.ids).length = s.ids := Msgs.hashes_len _ _
            have hok := (Msgs.get_ok (cmd := cl) (b := b) (by rw [HGX.out, HPE.out.2 he])).1
            rw [HGX.out, HPE.out.2 he] at hok
            exact ⟨_, A1, c1, none, 0, none, 0, ⟨(j : Int), Msgs.numOf s b, Msgs.codeOf s b, Msgs.hashes b s.ids, Txs.none⟩, by rw [HGX.out]; exact HPE.out.2 he, h3, by unfold msgV; rw [hlen]; rfl, fun wz kz => ⟨by show _ ≤ (j : Int); omega, by show (j : Int) ≤ _; omega, hok.n, hok.code, by show (Msgs.hashes b s.ids).length ≤ _; rw [hlen]; exact h4, h5, hashes_kp h6 kz (fun a ha => by have := h7 a ha; omega), none_tx _ _⟩⟩⟩)
          go_upto_region 13 with (fail)
          clear hk4 ho4 fm0 fm4 fm5 fm6 m3 m4 m5 m6 s4 s5 s6
        all_goals
          have HRZ := Lib.hid HMID.out.res
          have HBZ := Lib.hid HMID.out.below
          rcases Decidable.em (er = 0) with he | he
          · obtain ⟨mm, A', c', A1', c1', A2', c2', m, hqe, hbk, hv, hat⟩ := HMID.out.good he
            have HBK := Lib.hid hbk
            have HV := Lib.hid hv
            have HQ := Lib.hid hqe
            have HAT2 := Lib.hid hat
            have HML := Lib.hid (msgV_cells hv).1
            have HMO := Lib.hid (msgV_cells hv).2
            clear hqe hbk hv hat HMID
            subst he
            go_wp2_with (first
              | (refine wpList_load_row rfl 32 (.tmp 9) rfl gm (by rfl) 32 mm (0, 0) _ HBK.out Try.underlying32 rfl (by rw [HML.out]; exact size_msg) ?_)
              | (refine wpList_store_row rfl 32 (.tmp 4) _ rfl g mm (by rfl) (by rfl) 32 zeroM HRZ.out (by rw [HML.out]; exact size_msg) (by rw [HML.out]; rfl) HMO.out ?_))
            refine bodyPost_ret (results_row_tmp rfl _ _ g 32 mm (0, 0) _ rfl (setRow_heap _ _ _ _ _ _ HRZ.out) Try.underlying32 rfl (by rw [HML.out]; exact size_msg) (.int .i64 0) (by rfl)) rfl ?_
            have kz : Kp (fun i => i = g) w5 (w5.setRow g mm) := Kp.setRow7 (S := fun i => i = g) (Kp.refl _ _) (fun _ => rfl) mm
            rw [HQ.out]
            exact ⟨A', c', A1', c1', A2', c2', by rw [HV.out], HAT2.out _ kz, below_row HBZ.out (by omega) mm⟩
          · have e1 : (er != 0) = true := by rw [bne_iff_ne]; exact he
            have HQ := Lib.hid (HMID.out.bad he)
            clear HMID he
            go_wp2_with (refine wpList_store_row rfl 32 (.tmp 4) _ rfl g zeroM (by rfl) (by rfl) 32 zeroM HRZ.out (by exact size_msg) rfl zeroM_one ?_)
            refine bodyPost_ret (results_row_tmp rfl _ _ g 32 zeroM (0, 0) _ rfl (setRow_heap _ _ _ _ _ _ HRZ.out) Try.underlying32 rfl (by exact size_msg) (.int .i64 er) (by rfl)) rfl ?_
            rw [HQ.out]
            exact ⟨none, 0, none, 0, none, 0, rfl, none_msg _ _, below_row HBZ.out (by omega) _⟩
      · have HK := Lib.hid (show Msgs.kindOf cl = Msgs.kindFrom cl (12 - (j + 1)) (j + 1) by rw [HKF.out, if_neg hq])
        have hseq : (s.cmd == cmd.toList) = false := by rw [ByteArray.toList_eq, ← HCL.out, beq_eq_false_iff_ne]; exact hq
        have s0 : w2.cell? ⟨g7, 0, none⟩ = some (.string ⟨s.cmd.toArray⟩) := by rw [HS2.out.cell, HSH.out]; rfl
        go_wp2_with fail
        go_roundw
        case rel => exact ⟨j + 1, by omega, by omega, by go_num, HK, HR2, Lib.hid ⟨HB2.out, by omega⟩⟩
        case measure => simp [intOf]; omega
    · have HK := Lib.hid (show Msgs.kindOf cl = 0 by rw [hkf.out, show 12 - j = 0 by omega]; rfl)
      obtain rfl : j = 12 := by omega
      have HX := Lib.hid (show Msgs.get cl b = (Msgs.none, 8) by rw [HGET.out, if_pos HK.out])
      have HBE := Lib.hid hbel.out.1
      clear hkf
      go_wp2_with (refine wpList_store_row rfl 32 (.tmp 4) _ rfl g zeroM (by rfl) (by rfl) 32 zeroM hres.out (by exact size_msg) rfl zeroM_one ?_)
      refine bodyPost_ret (results_row_tmp rfl _ _ g 32 zeroM (0, 0) _ rfl (setRow_heap _ _ _ _ _ _ hres.out) Try.underlying32 rfl (by exact size_msg) (.int .i64 8) (by rfl)) rfl ?_
      rw [HX.out]
      exact ⟨none, 0, none, 0, none, 0, rfl, none_msg _ _, below_row HBE.out (by omega) _⟩
end Go.Proofs.Ytanjlgkbjcienaa.M8
