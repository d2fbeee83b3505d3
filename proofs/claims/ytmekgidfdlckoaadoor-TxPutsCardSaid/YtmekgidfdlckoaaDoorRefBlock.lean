/- The document's block. -/
import Derived.Test.YtmekgidfdlckoaaDoorShaTwice
import Derived.BigRegion
import Derived.BigQuiet
import Derived.Great.BuildSlice
namespace Go.Proofs.YtmekgidfdlckoaaDoor
open Go.RowKit Go.Deep
set_option linter.unusedVariables false
set_option linter.unusedSimpArgs false
set_option maxRecDepth 100000
attribute [local go_sem ↓] Go.wp_at_zero Go.wp_at_succ
theorem zeros64 : u32Arr (List.replicate 64 0) = (List.replicate 64 (Value.int .u32 0)).toArray := by
  have h : u32V 0 = Value.int .u32 0 := rfl
  unfold u32Arr; rw [List.map_replicate, h]
theorem zero_w64 : (Tryd.prog.info? 96).map (·.zero) = some (some (.agg (u32Arr (List.replicate 64 0)))) := by
  rw [zeros64]; kernel_rfl
theorem info_w64 : (Tryd.prog.info? 96).map (·.size) = some 64 := by kernel_rfl
theorem u32Arr_size (l : List UInt32) : (u32Arr l).size = l.length := by simp [u32Arr]
theorem u32Arr_one (l : List UInt32) : (u32Arr l).all (·.oneCell') = true := by
  unfold u32Arr
  rw [List.all_toArray, List.all_map, List.all_eq_true]
  intro x _
  rfl
theorem consts_ref (ks : Array Value) (hks : ks = u32Arr Sha.consts) (w : World) : Calls Tryd.prog 48 #[] w fun e w' => e = .returned (.agg ks) ∧ Below w.heap.size w w' := by
  have hz := zero_w64
  obtain ⟨zs, hzs⟩ : ∃ zs, zs = u32Arr (List.replicate 64 0) := ⟨_, rfl⟩
  rw [← hzs] at hz
  have HZ := Lib.hid hz
  have hsz : zs.size = 64 := by rw [hzs]; rfl
  have HSZ := Lib.hid hsz
  have HK := Lib.hid hks
  have hkz : ks.size = 64 := by rw [hks]; rfl
  have HKZ := Lib.hid hkz
  have hk1 : ks.all (·.oneCell') = true := by rw [hks]; exact u32Arr_one _
  have HK1 := Lib.hid hk1
  clear hz hzs hsz hks hkz hk1
  go_enter Tryd.func48, Tryd.ntmps48
  go_upto_region 1 with (refine wpList_allocOf rfl 96 rfl zs HZ.out ?_)
  refine wp_region_lit ?_
  refine wpList_buildTo rfl 96 _ rfl (some 1) rfl ks ?hb ?_
  case hb => rw [HK.out]; as_aux_lemma => kernel_rfl
  refine wpList_store_rowTo rfl 96 (.tmp 0) (.tmp 1) rfl rfl w.heap.size ks rfl rfl 96 zs (Bk.new _ _ _) ?hi (by rw [HSZ.out, HKZ.out]) HK1.out ?_
  case hi => rw [HKZ.out]; exact info_w64

  go_wp2_with fail
  refine bodyPost_ret (results_cell_row rfl _ _ w.heap.size 96 ks (0, 0) _ rfl (Bk.setRow (Bk.new _ _ _) ks) Tryd.underlying96 rfl (by rw [HKZ.out]; exact info_w64)) rfl ⟨rfl, ?_⟩
  exact (Kp.setRow (S := fun i => i = w.heap.size) ((Kp.refl _ _).alloc _) (fun h => by omega) _).below_from (Nat.le_refl _) (Nat.le_refl _)
theorem u_addf4 (a b c d : UInt32) : ((a.toNat : Int) + (b.toNat : Int) + (c.toNat : Int) + (d.toNat : Int)) % 4294967296 = ((a + b + c + d).toNat : Int) := by
  simp only [UInt32.toNat_add]; omega
theorem u_addf5 (a b c d e : UInt32) : ((a.toNat : Int) + (b.toNat : Int) + (c.toNat : Int) + (d.toNat : Int) + (e.toNat : Int)) % 4294967296 = ((a + b + c + d + e).toNat : Int) := by
  simp only [UInt32.toNat_add]; omega
theorem u_notx (x : UInt32) : bits .xor .u32 IntKind.u32.max (x.toNat : Int) = ((~~~x).toNat : Int) := by
  have h : IntKind.u32.max = ((4294967295 : UInt32).toNat : Int) := rfl
  rw [h, u_xor]
  congr 2
def turnBy (x : UInt32) (n : Int) : UInt32 := Sha.rotr x (UInt32.ofNat n.toNat)
theorem turn_any (x : UInt32) (n : Int) (w : World) (h : n = 2 ∨ n = 6 ∨ n = 7 ∨ n = 11 ∨ n = 13 ∨ n = 17 ∨ n = 18 ∨ n = 19 ∨ n = 22 ∨ n = 25) :
    Calls Tryd.prog 49 #[.int .u32 (x.toNat : Int), .int .u64 n] w fun r w' => r = .returned (.int .u32 ((turnBy x n).toNat : Int)) ∧ w = w' := by
  rcases h with rfl | rfl | rfl | rfl | rfl | rfl | rfl | rfl | rfl | rfl
  · exact turn2 x w
  · exact turn6 x w
  · exact turn7 x w
  · exact turn11 x w
  · exact turn13 x w
  · exact turn17 x w
  · exact turn18 x w
  · exact turn19 x w
  · exact turn22 x w
  · exact turn25 x w
def schedRow (b : List UInt8) (t : Nat) : List UInt32 := Sha.sched b t ++ List.replicate (64 - t) 0
theorem schedRow_len (b : List UInt8) {t : Nat} (h : t ≤ 64) : (schedRow b t).length = 64 := by simp [schedRow, Sha.sched_len]; omega
theorem schedRow_get (b : List UInt8) {i t : Nat} (h : i < t) : (schedRow b t).getD i 0 = Sha.Wt b i := by
  rw [← Sha.sched_get b t i h]
  simp [schedRow, List.getD_eq_getElem?_getD, List.getElem?_append, Sha.sched_len, h]
theorem schedRow_next (b : List UInt8) {t : Nat} (h : t < 64) : (schedRow b t).set t (Sha.Wt b t) = schedRow b (t + 1) := by
  have e : Sha.sched b (t + 1) = Sha.sched b t ++ [Sha.Wt b t] := by
    have h1 : Sha.Wt b t = (Sha.sched b (t + 1)).getD t 0 := rfl
    rw [h1]
    simp [Sha.sched, List.getD_eq_getElem?_getD, List.getElem?_append, Sha.sched_len]
  unfold schedRow
  rw [List.set_append_right _ _ (by rw [Sha.sched_len]; omega), Sha.sched_len, Nat.sub_self, show 64 - t = (64 - (t + 1)) + 1 by omega, List.replicate_succ, List.set_cons_zero, e, List.append_assoc]
  rfl
structure SchedRel (b : List UInt8) (W0 : World) (g t : Nat) (wr : World) : Prop where
  row : Bk wr g 96 (u32Arr (schedRow b t))
  kp : Kp (fun i => i = g) W0 wr
theorem SchedRel.drewN {b : List UInt8} {W0 wr : World} {g t : Nat} (h : SchedRel b W0 g t wr) (n : Nat) : SchedRel b W0 g t (wr.drewN n) := ⟨h.row.drewN n, h.kp.drewN n⟩
theorem SchedRel.drew {b : List UInt8} {W0 wr : World} {g t : Nat} (h : SchedRel b W0 g t wr) : SchedRel b W0 g t wr.drew := ⟨h.row.drew, h.kp.drew⟩
theorem sched_cells {b : List UInt8} {W0 wr : World} {g j : Nat} (h : SchedRel b W0 g (j + 16) wr) (hj : j < 48) :
    wr.cell? ⟨g, j + 14, none⟩ = some (.int .u32 ((Sha.Wt b (j + 14)).toNat : Int)) ∧ wr.cell? ⟨g, j + 1, none⟩ = some (.int .u32 ((Sha.Wt b (j + 1)).toNat : Int)) ∧ wr.cell? ⟨g, j + 9, none⟩ = some (.int .u32 ((Sha.Wt b (j + 9)).toNat : Int)) ∧
    wr.cell? ⟨g, j, none⟩ = some (.int .u32 ((Sha.Wt b j).toNat : Int)) ∧ (∃ y : UInt32, wr.cell? ⟨g, j + 16, none⟩ = some (.int .u32 (y.toNat : Int))) ∧ wr.frozen? ⟨g, j + 16, none⟩ = false ∧
    SchedRel b W0 g (j + 16 + 1) (wr.setCell ⟨g, j + 16, none⟩ (.int .u32 ((Sha.Wt b (j + 16)).toNat : Int))) := by
  have hle := schedRow_len b (t := j + 16) (by omega)
  have c2 := h.row.u32 (i := j + 14) (by omega)
  have c15 := h.row.u32 (i := j + 1) (by omega)
  have c7 := h.row.u32 (i := j + 9) (by omega)
  have c16 := h.row.u32 (i := j) (by omega)
  have cw := h.row.u32 (i := j + 16) (by omega)
  rw [schedRow_get b (by omega)] at c2 c15 c7 c16
  have hst := h.row.setU32 (j + 16) (Sha.Wt b (j + 16))
  rw [schedRow_next b (by omega)] at hst
  exact ⟨c2, c15, c7, c16, ⟨_, cw⟩, h.row.frozen _, hst, Kp.setCell (S := fun i => i = g) h.kp (fun _ => rfl) _⟩
def addRow (s v : Sha.St) (i : Nat) : List UInt32 := (s.add v).list.take i ++ s.list.drop i
theorem addRow_next (s v : Sha.St) {i : Nat} (h : i < 8) : (addRow s v i).set i ((addRow s v i).getD i 0 + v.list.getD i 0) = addRow s v (i + 1) := by
  have : i = 0 ∨ i = 1 ∨ i = 2 ∨ i = 3 ∨ i = 4 ∨ i = 5 ∨ i = 6 ∨ i = 7 := by omega
  rcases this with rfl | rfl | rfl | rfl | rfl | rfl | rfl | rfl <;> rfl
theorem addRow_len (s v : Sha.St) {i : Nat} (h : i ≤ 8) : (addRow s v i).length = 8 := by simp [addRow, Sha.St.list]; omega
theorem st_cells {w : World} {g t : Nat} {v : Sha.St} (h : Bk w g t (u32Arr v.list)) :
    w.cell? ⟨g, 0, none⟩ = some (.int .u32 (v.a.toNat : Int)) ∧ w.cell? ⟨g, 1, none⟩ = some (.int .u32 (v.b.toNat : Int)) ∧ w.cell? ⟨g, 2, none⟩ = some (.int .u32 (v.c.toNat : Int)) ∧ w.cell? ⟨g, 3, none⟩ = some (.int .u32 (v.d.toNat : Int)) ∧
    w.cell? ⟨g, 4, none⟩ = some (.int .u32 (v.e.toNat : Int)) ∧ w.cell? ⟨g, 5, none⟩ = some (.int .u32 (v.f.toNat : Int)) ∧ w.cell? ⟨g, 6, none⟩ = some (.int .u32 (v.g.toNat : Int)) ∧ w.cell? ⟨g, 7, none⟩ = some (.int .u32 (v.h.toNat : Int)) :=
  ⟨h.cell 0, h.cell 1, h.cell 2, h.cell 3, h.cell 4, h.cell 5, h.cell 6, h.cell 7⟩
structure StRel (l : List UInt32) (W0 : World) (g : Nat) (wr : World) : Prop where
  row : Bk wr g 86 (u32Arr l)
  kp : Kp (fun i => i = g) W0 wr
theorem StRel.drewN {l : List UInt32} {W0 wr : World} {g : Nat} (h : StRel l W0 g wr) (n : Nat) : StRel l W0 g (wr.drewN n) := ⟨h.row.drewN n, h.kp.drewN n⟩
theorem st_set {w : World} {g t : Nat} {v : Sha.St} (h : Bk w g t (u32Arr v.list)) (s' : Sha.St) : Bk ((((((((w.setCell ⟨g, 0, none⟩ (.int .u32 (s'.a.toNat : Int))).setCell ⟨g, 1, none⟩ (.int .u32 (s'.b.toNat : Int))).setCell ⟨g, 2, none⟩ (.int .u32 (s'.c.toNat : Int))).setCell ⟨g, 3, none⟩ (.int .u32 (s'.d.toNat : Int))).setCell ⟨g, 4, none⟩ (.int .u32 (s'.e.toNat : Int))).setCell ⟨g, 5, none⟩ (.int .u32 (s'.f.toNat : Int))).setCell ⟨g, 6, none⟩ (.int .u32 (s'.g.toNat : Int))).setCell ⟨g, 7, none⟩ (.int .u32 (s'.h.toNat : Int))) g t (u32Arr s'.list) :=
  set8 (y0 := u32V v.a) (y1 := u32V v.b) (y2 := u32V v.c) (y3 := u32V v.d) (y4 := u32V v.e) (y5 := u32V v.f) (y6 := u32V v.g) (y7 := u32V v.h) h _ _ _ _ _ _ _ _
set_option maxHeartbeats 4000000 in
theorem block_ref (s : Sha.St) (b : List UInt8) (hb : b.length = 64) (w : World) :
    Calls Tryd.prog 44 #[stV s, .agg (bytesArr b)] w fun e w' => e = .returned (stV (Sha.block s b)) ∧ Below w.heap.size w w' := by
  have hst : stV s = .agg (u32Arr s.list) := rfl
  rw [hst]
  obtain ⟨ss, hss⟩ : ∃ ss, ss = u32Arr s.list := ⟨_, rfl⟩
  rw [← hss]
  obtain ⟨cs, hcs⟩ : ∃ cs, cs = bytesArr b := ⟨_, rfl⟩
  rw [← hcs]
  have HCS := Lib.hid hcs
  have HSS := Lib.hid hss
  have HB := Lib.hid hb
  have hz := zero_w64
  obtain ⟨zs, hzs⟩ : ∃ zs, zs = u32Arr (List.replicate 64 0) := ⟨_, rfl⟩
  rw [← hzs] at hz
  have HZE := Lib.hid hzs
  have HZ := Lib.hid hz
  have hsz : zs.size = 64 := by rw [hzs]; rfl
  have HSZ := Lib.hid hsz
  clear hz hzs hsz hcs hss hb hst
  obtain ⟨ks, hks⟩ : ∃ ks, ks = u32Arr Sha.consts := ⟨_, rfl⟩
  have HKS := Lib.hid hks
  have HC := fun W => Lib.hid (consts_ref ks hks W)
  have hkz : ks.size = 64 := by rw [hks]; rfl
  have hk1 : ks.all (·.oneCell') = true := by rw [hks]; exact u32Arr_one _
  have HKZ := Lib.hid hkz
  have HK1 := Lib.hid hk1
  clear hks hkz hk1
  go_enter Tryd.func44, Tryd.ntmps44
  go_wp2_with fail
  refine (HC _).out.mono ?_
  rintro e w1 ⟨rfl, hb1⟩
  have kS := ((Bk.new w 86 ss).alloc (.cells cs 87)).alloc (.cells #[.int .u32 0, .int .u32 0, .int .u32 0, .int .u32 0, .int .u32 0, .int .u32 0, .int .u32 0, .int .u32 0] 86)
  have kB := (Bk.new_at (w.alloc (.cells ss 86)) 87 cs (show w.heap.size + 1 = _ by simp)).alloc (.cells #[.int .u32 0, .int .u32 0, .int .u32 0, .int .u32 0, .int .u32 0, .int .u32 0, .int .u32 0, .int .u32 0] 86)
  have kR := Bk.new_at ((w.alloc (.cells ss 86)).alloc (.cells cs 87)) 86 #[.int .u32 0, .int .u32 0, .int .u32 0, .int .u32 0, .int .u32 0, .int .u32 0, .int .u32 0, .int .u32 0] (show w.heap.size + 1 + 1 = _ by simp)
  have kS1 := kS.below hb1 kS.lt
  have kB1 := kB.below hb1 kB.lt
  have kR1 := kR.below hb1 kR.lt
  have hz1 : w.heap.size + 1 + 1 < w1.heap.size := kR1.lt
  have hB1 : Below w.heap.size w w1 := ((Joins.below_alloc2 w (.cells ss 86) (.cells cs 87)).alloc (by simp; omega) _).trans (hb1.mono (by simp; omega))
  have HS1 := Lib.hid kS1
  have HB1k := Lib.hid kB1
  have HR1 := Lib.hid kR1
  have HB1 := Lib.hid hB1
  clear kS kB kR kS1 kB1 kR1 hB1 hb1 HC
  go_upto_region 3 with (first
    | (refine wpList_allocOf rfl 96 rfl zs HZ.out ?_)
    | (refine wpList_store_rowTo rfl 96 (.tmp 5) (.tmp 18) rfl rfl w1.heap.size ks rfl rfl 96 zs (Bk.new _ _ _) ?hi (by rw [HSZ.out, HKZ.out]) HK1.out ?_))
  case hi => rw [HKZ.out]; exact info_w64
  have hz2 : ((w1.alloc (.cells zs 96)).setRow w1.heap.size ks).heap.size = w1.heap.size + 1 := by simp [World.setRow]
  rw [hz2]
  obtain ⟨W0, hW0⟩ : ∃ W0 : World, W0 = ((w1.alloc (.cells zs 96)).setRow w1.heap.size ks).alloc (.cells zs 96) := ⟨_, rfl⟩
  rw [← hW0]
  have kK : Bk W0 w1.heap.size 96 ks := by rw [hW0]; exact (Bk.setRow (Bk.new _ _ _) ks).alloc _
  have kW : Bk W0 (w1.heap.size + 1) 96 zs := by rw [hW0]; exact Bk.new_at _ _ _ hz2.symm
  have b10 : Kp (fun _ => False) w1 W0 := by rw [hW0]; exact (Kp.setRow (S := fun _ => False) ((Kp.refl _ w1).alloc _) (fun h => by omega) _).alloc _
  have HB0 := Lib.hid (HB1.out.trans (b10.below.mono (by omega)))
  have HS0 := Lib.hid (HS1.out.kp b10 (fun h => h))
  have HBb0 := Lib.hid (HB1k.out.kp b10 (fun h => h))
  have HR0 := Lib.hid (HR1.out.kp b10 (fun h => h))
  have HK0 := Lib.hid kK
  have HW0 := Lib.hid kW
  have hzW : W0.heap.size = w1.heap.size + 1 + 1 := by rw [hW0]; simp [World.setRow]
  have HZW := Lib.hid hzW
  clear hW0 kK kW b10 HB1 HS1 HB1k HR1 hz2 hzW
  rw [HZE.out] at HW0
  go_wp2_with fail
  go_loopw [19] (fun i wr => ∃ k : Nat, k ≤ 16 ∧ i = .int .i64 (k : Int) ∧ SchedRel b W0 (w1.heap.size + 1) k wr) (fun i _ => 16 - (intOf i).toNat)
  case atStart => exact ⟨0, by omega, rfl, HW0.out, Kp.refl _ _⟩
  case round =>
    obtain ⟨k, hk, rfl, hrr⟩ := hrel
    by_cases hlt : k < 16
    · have hlt' : (k : Int) < 16 := by omega
      have kb := HBb0.out.kp hrr.kp (by omega)
      have c0 : wr.cell? ⟨w.heap.size + 1, 4 * k, none⟩ = some (.int .u8 ((b.getD (4 * k) 0).toUInt32.toNat : Int)) := by rw [kb.cell]; exact byte_get HCS.out (by rw [HB.out]; omega)
      have c1 : wr.cell? ⟨w.heap.size + 1, 4 * k + 1, none⟩ = some (.int .u8 ((b.getD (4 * k + 1) 0).toUInt32.toNat : Int)) := by rw [kb.cell]; exact byte_get HCS.out (by rw [HB.out]; omega)
      have c2 : wr.cell? ⟨w.heap.size + 1, 4 * k + 2, none⟩ = some (.int .u8 ((b.getD (4 * k + 2) 0).toUInt32.toNat : Int)) := by rw [kb.cell]; exact byte_get HCS.out (by rw [HB.out]; omega)
      have c3 : wr.cell? ⟨w.heap.size + 1, 4 * k + 3, none⟩ = some (.int .u8 ((b.getD (4 * k + 3) 0).toUInt32.toNat : Int)) := by rw [kb.cell]; exact byte_get HCS.out (by rw [HB.out]; omega)
      have cw := hrr.row.u32 (i := k) (by rw [schedRow_len b (by omega)]; omega)
      have fw : wr.frozen? ⟨w1.heap.size + 1, k, none⟩ = false := hrr.row.frozen _
      have hst := hrr.row.setU32 k (Sha.Wt b k)
      rw [schedRow_next b (by omega)] at hst
      have HST := Lib.hid hst
      have HKP := Lib.hid hrr.kp
      have HV := Lib.hid (show Sha.Wt b k = (b.getD (4 * k) 0).toUInt32 <<< 24 ||| (b.getD (4 * k + 1) 0).toUInt32 <<< 16 ||| (b.getD (4 * k + 2) 0).toUInt32 <<< 8 ||| (b.getD (4 * k + 3) 0).toUInt32 from Sha.Wt_low b k hlt)
      clear hrr kb hst
      generalize (b.getD (4 * k) 0).toUInt32 = x0 at *
      generalize (b.getD (4 * k + 1) 0).toUInt32 = x1 at *
      generalize (b.getD (4 * k + 2) 0).toUInt32 = x2 at *
      generalize (b.getD (4 * k + 3) 0).toUInt32 = x3 at *
      have hx0 := u32_lt x0
      have hx1 := u32_lt x1
      have hx2 := u32_lt x2
      have hx3 := u32_lt x3
      go_wp2_with fail
      go_big_region
      go_wp2_with fail
      simp only [u_shl24, u_shl16, u_shl8, u_or]
      rw [← HV.out]
      go_roundw
      case rel => exact ⟨k + 1, by omega, by go_num, HST.out.drew, (Kp.setCell (S := fun i => i = w1.heap.size + 1) HKP.out (fun _ => rfl) _).drew⟩
      case measure => simp [intOf]; omega
    · obtain rfl : k = 16 := by omega
      have HRR := Lib.hid hrr
      clear hrr hlt hk
      go_wp2_with fail
      go_loopw [8] (fun i wr => ∃ j : Nat, j ≤ 48 ∧ i = .int .i64 ((j : Int) + 16) ∧ SchedRel b W0 (w1.heap.size + 1) (j + 16) wr) (fun i _ => 64 - (intOf i).toNat)
      case atStart => exact ⟨0, by omega, rfl, HRR.out⟩
      case round =>
        clear HRR
        obtain ⟨j, hj, rfl, hrr⟩ := hrel
        by_cases hlt : j < 48
        · have hlt' : (j : Int) < 48 := by omega
          obtain ⟨c2, _⟩ := sched_cells hrr hlt
          have HV := Lib.hid (Sha.Wt_high b (j + 16) (by omega))
          rw [show j + 16 - 2 = j + 14 by omega, show j + 16 - 7 = j + 9 by omega, show j + 16 - 15 = j + 1 by omega, show j + 16 - 16 = j by omega] at HV
          generalize hx2 : Sha.Wt b (j + 14) = x2 at c2 HV
          have HRR := Lib.hid hrr
          clear hrr hx2
          go_wp2_with fail
          go_quiet ((go_at_call 49; exact Calls.quiet_of_same ((turn_any _ _ _ (by decide)).mono (fun e w' h => ⟨h.1, h.2.symm⟩))))
          go_wp2_with fail
          simp only [u_xor, u_shr10]
          rw [show turnBy x2 17 ^^^ turnBy x2 19 ^^^ x2 >>> 10 = Sha.sig1 x2 from rfl]
          generalize Sha.sig1 x2 = y1 at *
          obtain ⟨wq, hwq⟩ : ∃ wq, wq = wr.drewN nq := ⟨_, rfl⟩
          rw [← hwq]
          have hrr : SchedRel b W0 (w1.heap.size + 1) (j + 16) wq := by rw [hwq]; exact HRR.out.drewN _
          clear hwq HRR c2
          obtain ⟨_, c15, _⟩ := sched_cells hrr hlt
          generalize hx15 : Sha.Wt b (j + 1) = x15 at c15 HV
          have HRR := Lib.hid hrr
          clear hrr hx15
          go_quiet ((go_at_call 49; exact Calls.quiet_of_same ((turn_any _ _ _ (by decide)).mono (fun e w' h => ⟨h.1, h.2.symm⟩))))
          go_wp2_with fail
          simp only [u_xor, u_shr3]
          rw [show turnBy x15 7 ^^^ turnBy x15 18 ^^^ x15 >>> 3 = Sha.sig0 x15 from rfl]
          generalize Sha.sig0 x15 = y2 at *
          obtain ⟨wp, hwp⟩ : ∃ wp, wp = wq.drewN nq := ⟨_, rfl⟩
          rw [← hwp]
          have hrr : SchedRel b W0 (w1.heap.size + 1) (j + 16) wp := by rw [hwp]; exact HRR.out.drewN _
          clear hwp HRR c15
          obtain ⟨_, _, c7, c16, ⟨y, cw⟩, fw, hst⟩ := sched_cells hrr hlt
          generalize Sha.Wt b (j + 9) = x7 at *
          generalize Sha.Wt b j = x16 at *
          have HST := Lib.hid hst
          clear hrr hst
          go_big_region
          go_wp2_with fail
          rw [u_addf4, ← HV.out]
          go_roundw
          case rel =>
            refine ⟨j + 1, by omega, by go_num, ?_⟩
            rw [show j + 1 + 16 = j + 16 + 1 by omega]
            exact HST.out.drew
          case measure => simp [intOf]; omega
        · obtain rfl : j = 48 := by omega
          have hS1 := HS0.out.kp hrr.kp (by omega)
          have hR1 := HR0.out.kp hrr.kp (by omega)
          have hK1 := HK0.out.kp hrr.kp (by omega)
          have hb1 := HB0.out.trans (hrr.kp.below_from (B := w.heap.size) (by omega) HB0.out.size)
          have hW1 := hrr.row
          have hgw := hW1.lt
          have hsz8 : ss.size = 8 := by rw [HSS.out, u32Arr_size]; rfl
          have hone : ss.all (·.oneCell') = true := by rw [HSS.out]; exact u32Arr_one _
          have HSZ8 := Lib.hid hsz8
          have HONE8 := Lib.hid hone
          have HS1 := Lib.hid hS1
          have HR1 := Lib.hid hR1
          have HK1' := Lib.hid hK1
          have HBw := Lib.hid hb1
          have HW1 := Lib.hid hW1
          clear hrr hS1 hR1 hK1 hb1 hW1 hsz8 hone hlt hj HW0 HZW HS0 HR0 HK0 HBb0 HB0
          go_upto_region 15 with (first
            | (refine wpList_load_row rfl 86 (.tmp 2) rfl w.heap.size rfl 86 ss (0, 0) (.array 8 22) HS1.out Tryd.underlying86 rfl ?hi1 ?_)
            | (refine wpList_store_rowTo rfl 86 (.tmp 11) (.tmp 107) rfl rfl wr.heap.size ss rfl rfl 86 #[.int .u32 0, .int .u32 0, .int .u32 0, .int .u32 0, .int .u32 0, .int .u32 0, .int .u32 0, .int .u32 0] (Bk.new _ _ _) ?hi2 (by rw [HSZ8.out]; rfl) HONE8.out ?_))
          case hi1 => rw [HSZ8.out]; exact info_st
          case hi2 => rw [HSZ8.out]; exact info_st
          obtain ⟨W3, hW3⟩ : ∃ W3 : World, W3 = (wr.alloc (.cells #[.int .u32 0, .int .u32 0, .int .u32 0, .int .u32 0, .int .u32 0, .int .u32 0, .int .u32 0, .int .u32 0] 86)).setRow wr.heap.size ss := ⟨_, rfl⟩
          rw [← hW3]
          obtain ⟨gv, hgv⟩ : ∃ gv, gv = wr.heap.size := ⟨_, rfl⟩
          rw [← hgv]
          have kV : Bk W3 gv 86 ss := by rw [hW3, hgv]; exact Bk.setRow (Bk.new _ _ _) ss
          have kp3 : Kp (fun _ => False) wr W3 := by rw [hW3]; exact Kp.setRow (S := fun _ => False) ((Kp.refl _ wr).alloc _) (fun h => by omega) _
          have hgv1 : w1.heap.size + 1 < gv := by rw [hgv]; exact HW1.out.lt
          rw [HSS.out] at kV
          have HV3 := Lib.hid kV
          have HS3 := Lib.hid (HS1.out.kp kp3 (fun h => h))
          have HR3 := Lib.hid (HR1.out.kp kp3 (fun h => h))
          have HK3 := Lib.hid (HK1'.out.kp kp3 (fun h => h))
          have HW3 := Lib.hid (HW1.out.kp kp3 (fun h => h))
          have HB3 := Lib.hid (HBw.out.trans (kp3.below.mono HBw.out.size))
          have hgv3 : gv < W3.heap.size := kV.lt
          clear hW3 hgv kV kp3 HS1 HR1 HK1' HW1 HBw HONE8 hgw
          go_wp2_with fail
          go_loopw [108] (fun i wr => ∃ k : Nat, k ≤ 64 ∧ i = .int .i64 (k : Int) ∧ StRel (Sha.rounds s (Sha.sched b 64) k).list W3 gv wr) (fun i _ => 64 - (intOf i).toNat)
          case atStart => exact ⟨0, by omega, rfl, HV3.out, Kp.refl _ _⟩
          case round =>
            obtain ⟨k, hk, rfl, hrr⟩ := hrel
            by_cases hlt : k < 64
            · have hlt' : (k : Int) < 64 := by omega
              have HN := Lib.hid (rounds_next b s k hlt)
              have HKC := Lib.hid (show ∀ W : World, Kp (fun i => i = gv) W3 W → W.cell? ⟨w1.heap.size, k, none⟩ = some (.int .u32 ((Sha.consts.getD k 0).toNat : Int)) from fun W h => by
                have h1 := HK3.out.kp h (by omega); rw [HKS.out] at h1; exact h1.u32 hlt)
              have HWC := Lib.hid (show ∀ W : World, Kp (fun i => i = gv) W3 W → W.cell? ⟨w1.heap.size + 1, k, none⟩ = some (.int .u32 ((Sha.Wt b k).toNat : Int)) from fun W h => by
                have h1 := HW3.out.kp h (by omega); have h2 := h1.u32 (i := k) (by rw [schedRow_len b (by omega)]; omega); rwa [schedRow_get b (by omega)] at h2)
              generalize Sha.rounds s (Sha.sched b 64) k = v at *
              generalize Sha.consts.getD k 0 = kk at *
              generalize Sha.Wt b k = ww at *
              obtain ⟨c0, c1, c2, c3, c4, c5, c6, c7⟩ := st_cells hrr.row
              have kc := HKC.out wr hrr.kp
              have wc := HWC.out wr hrr.kp
              have HRR := Lib.hid hrr
              clear hrr
              go_wp2_with fail
              go_quiet ((go_at_call 49; exact Calls.quiet_of_same ((turn_any _ _ _ (by decide)).mono (fun e w' h => ⟨h.1, h.2.symm⟩))))
              go_wp2_with fail
              simp only [u_notx, u_xor, u_and]
              rw [u_addf5]
              rw [show v.h + (turnBy v.e 6 ^^^ turnBy v.e 11 ^^^ turnBy v.e 25) + ((v.e &&& v.f) ^^^ (~~~v.e &&& v.g)) + kk + ww = v.h + Sha.Sig1 v.e + Sha.ch v.e v.f v.g + kk + ww from rfl]
              obtain ⟨p, hp⟩ : ∃ p, p = v.h + Sha.Sig1 v.e + Sha.ch v.e v.f v.g + kk + ww := ⟨_, rfl⟩
              rw [← hp]
              have HP := Lib.hid hp
              obtain ⟨wq, hwq⟩ : ∃ wq, wq = wr.drewN nq := ⟨_, rfl⟩
              rw [← hwq]
              have hrr : StRel v.list W3 gv wq := by rw [hwq]; exact HRR.out.drewN _
              clear hwq HRR c0 c1 c2 c3 c4 c5 c6 c7 kc wc hp
              obtain ⟨c0, c1, c2, c3, c4, c5, c6, c7⟩ := st_cells hrr.row
              have HRR := Lib.hid hrr
              clear hrr
              go_quiet ((go_at_call 49; exact Calls.quiet_of_same ((turn_any _ _ _ (by decide)).mono (fun e w' h => ⟨h.1, h.2.symm⟩))))
              obtain ⟨wp, hwp⟩ : ∃ wp, wp = wq.drewN nq := ⟨_, rfl⟩
              rw [← hwp]
              have hrr : StRel v.list W3 gv wp := by rw [hwp]; exact HRR.out.drewN _
              clear hwp HRR c0 c1 c2 c3 c4 c5 c6 c7
              obtain ⟨c0, c1, c2, c3, c4, c5, c6, c7⟩ := st_cells hrr.row
              have fr := hrr.row.frozen
              have HRR := Lib.hid hrr
              clear hrr
              go_upto_region 22 with (fail)
              simp only [u_xor, u_and, u_add]
              rw [show turnBy v.a 2 ^^^ turnBy v.a 13 ^^^ turnBy v.a 22 = Sha.Sig0 v.a from rfl, show (v.a &&& v.b) ^^^ (v.a &&& v.c) ^^^ (v.b &&& v.c) = Sha.maj v.a v.b v.c from rfl]
              obtain ⟨q, hq⟩ : ∃ q, q = Sha.Sig0 v.a + Sha.maj v.a v.b v.c := ⟨_, rfl⟩
              rw [← hq]
              have HQ := Lib.hid hq
              clear hq
              go_wp2_with fail
              simp only [u_add]
              go_roundw
              case rel =>
                refine ⟨k + 1, by omega, by go_num, ?_⟩
                rw [HN.out, show Sha.round v kk ww = ⟨p + q, v.a, v.b, v.c, v.d + p, v.e, v.f, v.g⟩ from by rw [HP.out, HQ.out]; rfl]
                exact ⟨st_set HRR.out.row ⟨p + q, v.a, v.b, v.c, v.d + p, v.e, v.f, v.g⟩, kp_set8 (S := fun i => i = gv) HRR.out.kp rfl ⟨p + q, v.a, v.b, v.c, v.d + p, v.e, v.f, v.g⟩⟩
              case measure => simp [intOf]; omega
            · obtain rfl : k = 64 := by omega
              have HE := Lib.hid (show Sha.block s b = s.add (Sha.rounds s (Sha.sched b 64) 64) from rfl)
              have HVr := Lib.hid hrr.row
              generalize Sha.rounds s (Sha.sched b 64) 64 = v at *
              have hS4 := HS3.out.kp hrr.kp (by omega)
              rw [HSS.out] at hS4
              have HS4 := Lib.hid hS4
              have HR4 := Lib.hid (HR3.out.kp hrr.kp (by omega))
              have HB4 := Lib.hid (HB3.out.trans (hrr.kp.below_from (B := w.heap.size) (by omega) HB3.out.size))
              have hw4 : w.heap.size + 1 + 1 < wr.heap.size := HR4.out.lt
              clear hrr hS4 hlt hk HS3 HR3 HB3 HK3 HW3 HV3
              generalize wr = W4 at *
              go_wp2_with fail
              go_loopw [190] (fun i wq => ∃ k : Nat, k ≤ 8 ∧ i = .int .i64 (k : Int) ∧ StRel (addRow s v k) W4 w.heap.size wq) (fun i _ => 8 - (intOf i).toNat)
              case atStart => exact ⟨0, by omega, rfl, HS4.out, Kp.refl _ _⟩
              case round =>
                obtain ⟨k, hk, rfl, hrr⟩ := hrel
                by_cases hlt : k < 8
                · have hlt' : (k : Int) < 8 := by omega
                  have cv := (HVr.out.kp hrr.kp (by omega)).u32 (i := k) (by simpa [Sha.St.list] using hlt)
                  have cs := hrr.row.u32 (i := k) (by rw [addRow_len s v (by omega)]; omega)
                  have fr := hrr.row.frozen k
                  have hst := hrr.row.setU32 k ((addRow s v k).getD k 0 + v.list.getD k 0)
                  rw [addRow_next s v hlt] at hst
                  generalize (addRow s v k).getD k 0 = x at *
                  generalize v.list.getD k 0 = y at *
                  have HST := Lib.hid (show StRel (addRow s v (k + 1)) W4 w.heap.size _ from ⟨hst, Kp.setCell (S := fun i => i = w.heap.size) (p := ⟨w.heap.size, k, none⟩) hrr.kp (fun _ => rfl) (.int .u32 ((x + y).toNat : Int))⟩)
                  clear hst hrr
                  go_wp2_with fail
                  go_big_region
                  go_wp2_with fail
                  rw [u_add]
                  go_roundw
                  case rel => exact ⟨k + 1, by omega, by go_num, HST.out.row.drew, HST.out.kp.drew⟩
                  case measure => simp [intOf]; omega
                · obtain rfl : k = 8 := by omega
                  obtain ⟨os, hos⟩ : ∃ os, os = u32Arr (s.add v).list := ⟨_, rfl⟩
                  have hrow : Bk wr w.heap.size 86 os := by rw [hos]; exact hrr.row
                  have ho8 : os.size = 8 := by rw [hos, u32Arr_size]; rfl
                  have ho1 : os.all (·.oneCell') = true := by rw [hos]; exact u32Arr_one _
                  have HOS := Lib.hid hos
                  have HROW := Lib.hid hrow
                  have HO8 := Lib.hid ho8
                  have HO1 := Lib.hid ho1
                  have HR5 := Lib.hid (HR4.out.kp hrr.kp (by omega))
                  have HB5 := Lib.hid (HB4.out.trans (hrr.kp.below_from (B := w.heap.size) (Nat.le_refl _) HB4.out.size))
                  clear hrr hos hrow ho8 ho1 hlt hk
                  go_wp2_with (first
                    | (refine wpList_load_row rfl 86 (.tmp 2) rfl w.heap.size rfl 86 os (0, 0) (.array 8 22) HROW.out Tryd.underlying86 rfl ?hi3 ?_)
                    | (refine wpList_store_rowTo rfl 86 (.tmp 4) (.tmp 202) rfl rfl (w.heap.size + 1 + 1) os rfl rfl 86 #[.int .u32 0, .int .u32 0, .int .u32 0, .int .u32 0, .int .u32 0, .int .u32 0, .int .u32 0, .int .u32 0] HR5.out ?hi4 (by rw [HO8.out]; rfl) HO1.out ?_))
                  case hi3 => rw [HO8.out]; exact info_st
                  case hi4 => rw [HO8.out]; exact info_st
                  refine bodyPost_ret (results_cell_row rfl _ _ (w.heap.size + 1 + 1) 86 os (0, 0) _ rfl (Bk.setRow HR5.out os) Tryd.underlying86 rfl (by rw [HO8.out]; exact info_st)) rfl ⟨?_, ?_⟩
                  · rw [HE.out, HOS.out]; rfl
                  · exact HB5.out.trans ((Kp.setRow (S := fun i => i = w.heap.size + 1 + 1) (Kp.refl _ wr) (fun _ => rfl) os).below_from (by omega) HB5.out.size)
end Go.Proofs.YtmekgidfdlckoaaDoor
