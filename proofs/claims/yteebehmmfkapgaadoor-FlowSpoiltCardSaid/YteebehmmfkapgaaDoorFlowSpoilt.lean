/- FlowSpoilt: the walk. -/
import Derived.Test.YteebehmmfkapgaaDoorFlowKeeps
import Derived.Test.YteebehmmfkapgaaDoorTurn
import Derived.Deep.Strs
namespace Go.Proofs.YteebehmmfkapgaaDoor
open Go.RowKit Go.Deep Go.ChangeShapes Go.WideShapes Go.ChangeAt
set_option linter.unusedVariables false
set_option linter.unusedSimpArgs false
set_option maxRecDepth 100000
attribute [local go_sem ↓] Go.wp_at_zero Go.wp_at_succ

theorem three_open {H : Type} {enc : TypeId × Value → H} {W : World} {v : Value} {d : DataW H} {p : List MemPlace} (hv : Value.okWide Tryd.prog W .any 0 45 v) (h : DataW.Trod enc Tryd.prog W 0 (fun _ => true) true 45 v d p) :
    ∃ (m1 m2 m3 : Flo.Msg) (A1 : Option Addr) (c1 : Nat) (A2 : Option Addr) (c2 : Nat) (A3 : Option Addr) (c3 : Nat), v = .agg #[.string ⟨m1.cmd.toArray⟩, .slice A1 m1.body.length c1, .string ⟨m2.cmd.toArray⟩, .slice A2 m2.body.length c2, .string ⟨m3.cmd.toArray⟩, .slice A3 m3.body.length c3] ∧
      (m1.cmd.length ≤ maxLen ∧ m1.body.length ≤ c1 ∧ c1 ≤ maxLen ∧ BytesAt W W.heap.size A1 m1.body) ∧ (m2.cmd.length ≤ maxLen ∧ m2.body.length ≤ c2 ∧ c2 ≤ maxLen ∧ BytesAt W W.heap.size A2 m2.body) ∧ (m3.cmd.length ≤ maxLen ∧ m3.body.length ≤ c3 ∧ c3 ≤ maxLen ∧ BytesAt W W.heap.size A3 m3.body) := by
  unfold Value.okWide at hv
  rw [Tryd.underlying45] at hv
  obtain ⟨cs, rfl, hsz, _⟩ := hv
  obtain ⟨fuel, hf⟩ := h
  obtain ⟨y0, y1, y2, m, _, hl, h0, h1, h2⟩ := trod_struct3 Tryd.underlying45 hf
  have hm : Tryd.prog.cellsOf 43 = 2 := by kernel_rfl
  have h6 : Tryd.prog.cellsOf 45 = 6 := by kernel_rfl
  simp only [Value.cells, hm, List.drop_zero] at h0 h1 h2
  rw [h6] at hsz
  obtain ⟨m1, hs1, A1, c1, e1, hc1, hm1, hat1⟩ := isMsg_open _ _ _ (by simp; omega) h0
  obtain ⟨m2, hs2, A2, c2, e2, hc2, hm2, hat2⟩ := isMsg_open _ _ _ (by simp; omega) h1
  obtain ⟨m3, hs3, A3, c3, e3, hc3, hm3, hat3⟩ := isMsg_open _ _ _ (by simp; omega) h2
  refine ⟨m1, m2, m3, A1, c1, A2, c2, A3, c3, ?_, ⟨hs1, hc1, hm1, hat1⟩, ⟨hs2, hc2, hm2, hat2⟩, ⟨hs3, hc3, hm3, hat3⟩⟩
  congr 1
  rw [← Array.toList_inj]
  have a1 : cs.toList = cs.toList.take 2 ++ ((cs.toList.drop 2).take 2 ++ (cs.toList.drop 4).take 2) := by
    have b1 : cs.toList.drop 2 = (cs.toList.drop 2).take 2 ++ cs.toList.drop 4 := by
      have := (List.take_append_drop 2 (cs.toList.drop 2)).symm
      rwa [List.drop_drop] at this
    have b2 : (cs.toList.drop 4).take 2 = cs.toList.drop 4 := List.take_of_length_le (by simp; omega)
    rw [b2, ← b1, List.take_append_drop]
  rw [a1, e1, e2, e3]
  rfl
theorem Frm.get_turned {cmd body rest : List UInt8} (h : Frm.named cmd = true) (hb : body.length ≤ 2048) {i : Nat} {y : UInt8} (hne : Sha.check (body.set i y) ≠ Sha.check body) :
    (Frm.put cmd body).set (24 + i) y = Frm.headOf cmd body.length (Sha.check body).toNat ++ body.set i y ∧ Frm.get ((Frm.put cmd body).set (24 + i) y ++ rest) = ([], [], 24 + body.length, 7) := by
  obtain ⟨h0, h12, _⟩ := named_len h
  have hl := Frm.headOf_len h12 body.length (Sha.check body).toNat
  have hs := (Sha.check body).toNat_lt
  have hh := Frm.head_of h body.length (Sha.check body).toNat (by omega) hs
  rw [if_neg (by omega)] at hh
  have e : (Frm.put cmd body).set (24 + i) y = Frm.headOf cmd body.length (Sha.check body).toNat ++ body.set i y := by
    rw [Frm.put_head, List.set_append_right _ _ (by omega), hl, Nat.add_sub_cancel_left]
  refine ⟨e, ?_⟩
  rw [e, List.append_assoc]
  unfold Frm.get
  rw [if_neg (by rw [List.length_append, hl]; omega), List.take_left' hl, hh, List.drop_left' hl]
  simp only [ne_eq, not_true_eq_false, if_false]
  rw [if_neg (by rw [List.length_append, hl, List.length_append, List.length_set]; omega), if_neg h0, List.take_left' (by rw [List.length_set]), if_pos (fun e => hne (UInt32.toNat_inj.1 e))]
theorem Flo.run_spoilt {a b c : Flo.Msg} (ha : Flo.ok a = true) (hb : Flo.ok b = true) (hc : Flo.ok c = true) {i : Nat} {y : UInt8} (hne : Sha.check (b.body.set i y) ≠ Sha.check b.body) :
    Flo.run (Flo.put a ++ (Flo.put b).set (24 + i) y ++ Flo.put c) = ([Flo.said a, ⟨[], [], 7⟩, Flo.said c], [], false) := by
  have hb' := hb
  simp only [Flo.ok, Bool.and_eq_true, decide_eq_true_eq] at hb'
  obtain ⟨e, hg⟩ := Frm.get_turned (rest := Flo.put c) hb'.1 hb'.2 hne
  have hl : ((Flo.put b).set (24 + i) y).length = 24 + b.body.length := by rw [List.length_set]; exact (Flo.put_len hb).1
  have h2 := Flo.run_get (x := (Flo.put b).set (24 + i) y ++ Flo.put c) hg (by decide) (by decide) (by omega)
  rw [List.drop_left' hl, Flo.run_one hc] at h2
  rw [List.append_assoc, Flo.run_put' ha, h2]
theorem spoilt_idx (z n i m : Nat) (hz : z ≤ 65535) (hn : 0 < n) (hi : i = z / 8 % n) (hm : m = z % 8) :
    (z : Int) / 8 % (n : Int) = (i : Int) ∧ (z : Int) % 8 = (m : Int) ∧ (wrap64 (IntKind.u16.wrap ((z : Int).tdiv 8))).tmod (n : Int) = (i : Int) ∧ IntKind.u16.wrap ((z : Int).tmod 8) = (m : Int) ∧ (z : Int).tmod 8 = (m : Int) := by
  have h0 : (0 : Int) ≤ (z : Int) := by omega
  have h1 : (z : Int) / 8 % (n : Int) = (i : Int) := by rw [hi]; push_cast; rfl
  have h2 : (z : Int) % 8 = (m : Int) := by rw [hm]; omega
  refine ⟨h1, h2, ?_, ?_, ?_⟩
  · rw [Int.tdiv_eq_ediv_of_nonneg h0, IntWalk.u16_in _ (by omega), IntWalk.wrap64_in _ (by omega), IntWalk.rem_in _ _ (by omega), h1]
  · rw [IntWalk.rem_in _ _ h0, IntWalk.u16_in _ (by omega), h2]
  · rw [IntWalk.rem_in _ _ h0, h2]
theorem spoilt_24 (i z n : Nat) (h : i < 100000) (hi : (z : Int) / 8 % (n : Int) = (i : Int)) : wrap64 (24 + (z : Int) / 8 % (n : Int)) = ((24 + i : Nat) : Int) := by
  rw [hi, IntWalk.wrap64_in _ (by omega)]; omega
def SpoiltAt (w1 : World) (x1 y1 x2 y2 x3 y3 : Value) (P1 P2 P3 : Nat) (w : World) : Prop :=
  Bk w P1 43 #[x1, y1] ∧ Bk w P2 43 #[x2, y2] ∧ Bk w P3 43 #[x3, y3] ∧ w1.heap.size ≤ P1 ∧ w1.heap.size ≤ P2 ∧ w1.heap.size ≤ P3 ∧ Below w1.heap.size w1 w
theorem three_new (w1 : World) (X Y Z : Array Value) (T : Nat) : Bk (((w1.alloc (.cells X T)).alloc (.cells Y T)).alloc (.cells Z T)).drew w1.heap.size T X ∧ Bk (((w1.alloc (.cells X T)).alloc (.cells Y T)).alloc (.cells Z T)).drew (w1.heap.size + 1) T Y ∧
    Bk (((w1.alloc (.cells X T)).alloc (.cells Y T)).alloc (.cells Z T)).drew (w1.heap.size + 1 + 1) T Z ∧ Below w1.heap.size w1 (((w1.alloc (.cells X T)).alloc (.cells Y T)).alloc (.cells Z T)).drew :=
  ⟨(((Bk.new w1 T X).alloc _).alloc _).drew, ((Bk.new_at _ _ _ (by simp)).alloc _).drew, (Bk.new_at _ _ _ (by simp)).drew, ((((Below.refl _ _).alloc (Nat.le_refl _) _).alloc (by simp) _).alloc (by simp; omega) _).drew⟩
theorem sp123 (w1 : World) (x1 y1 x2 y2 x3 y3 : Value) : SpoiltAt w1 x1 y1 x2 y2 x3 y3 w1.heap.size (w1.heap.size + 1) (w1.heap.size + 1 + 1) (((w1.alloc (.cells #[x1, y1] 43)).alloc (.cells #[x2, y2] 43)).alloc (.cells #[x3, y3] 43)).drew := by
  obtain ⟨h1, h2, h3, hb⟩ := three_new w1 #[x1, y1] #[x2, y2] #[x3, y3] 43
  exact ⟨h1, h2, h3, by omega, by omega, by omega, hb⟩
theorem sp132 (w1 : World) (x1 y1 x2 y2 x3 y3 : Value) : SpoiltAt w1 x1 y1 x2 y2 x3 y3 w1.heap.size (w1.heap.size + 1 + 1) (w1.heap.size + 1) (((w1.alloc (.cells #[x1, y1] 43)).alloc (.cells #[x3, y3] 43)).alloc (.cells #[x2, y2] 43)).drew := by
  obtain ⟨h1, h2, h3, hb⟩ := three_new w1 #[x1, y1] #[x3, y3] #[x2, y2] 43
  exact ⟨h1, h3, h2, by omega, by omega, by omega, hb⟩
theorem sp213 (w1 : World) (x1 y1 x2 y2 x3 y3 : Value) : SpoiltAt w1 x1 y1 x2 y2 x3 y3 (w1.heap.size + 1) w1.heap.size (w1.heap.size + 1 + 1) (((w1.alloc (.cells #[x2, y2] 43)).alloc (.cells #[x1, y1] 43)).alloc (.cells #[x3, y3] 43)).drew := by
  obtain ⟨h1, h2, h3, hb⟩ := three_new w1 #[x2, y2] #[x1, y1] #[x3, y3] 43
  exact ⟨h2, h1, h3, by omega, by omega, by omega, hb⟩
theorem sp231 (w1 : World) (x1 y1 x2 y2 x3 y3 : Value) : SpoiltAt w1 x1 y1 x2 y2 x3 y3 (w1.heap.size + 1 + 1) w1.heap.size (w1.heap.size + 1) (((w1.alloc (.cells #[x2, y2] 43)).alloc (.cells #[x3, y3] 43)).alloc (.cells #[x1, y1] 43)).drew := by
  obtain ⟨h1, h2, h3, hb⟩ := three_new w1 #[x2, y2] #[x3, y3] #[x1, y1] 43
  exact ⟨h3, h1, h2, by omega, by omega, by omega, hb⟩
theorem sp312 (w1 : World) (x1 y1 x2 y2 x3 y3 : Value) : SpoiltAt w1 x1 y1 x2 y2 x3 y3 (w1.heap.size + 1) (w1.heap.size + 1 + 1) w1.heap.size (((w1.alloc (.cells #[x3, y3] 43)).alloc (.cells #[x1, y1] 43)).alloc (.cells #[x2, y2] 43)).drew := by
  obtain ⟨h1, h2, h3, hb⟩ := three_new w1 #[x3, y3] #[x1, y1] #[x2, y2] 43
  exact ⟨h2, h3, h1, by omega, by omega, by omega, hb⟩
theorem sp321 (w1 : World) (x1 y1 x2 y2 x3 y3 : Value) : SpoiltAt w1 x1 y1 x2 y2 x3 y3 (w1.heap.size + 1 + 1) (w1.heap.size + 1) w1.heap.size (((w1.alloc (.cells #[x3, y3] 43)).alloc (.cells #[x2, y2] 43)).alloc (.cells #[x1, y1] 43)).drew := by
  obtain ⟨h1, h2, h3, hb⟩ := three_new w1 #[x3, y3] #[x2, y2] #[x1, y1] 43
  exact ⟨h3, h2, h1, by omega, by omega, by omega, hb⟩
theorem keep6 {w1 W : World} {b : Nat} {v0 v1 v2 v3 v4 v5 : Value} (e0 : w1.cell? ⟨b, 0, none⟩ = some v0) (e1 : w1.cell? ⟨b, 1, none⟩ = some v1) (e2 : w1.cell? ⟨b, 2, none⟩ = some v2) (e3 : w1.cell? ⟨b, 3, none⟩ = some v3) (e4 : w1.cell? ⟨b, 4, none⟩ = some v4) (e5 : w1.cell? ⟨b, 5, none⟩ = some v5)
    (hl : b < w1.heap.size) (hb : Below w1.heap.size w1 W) : W.cell? ⟨b, 0, none⟩ = some v0 ∧ W.cell? ⟨b, 1, none⟩ = some v1 ∧ W.cell? ⟨b, 2, none⟩ = some v2 ∧ W.cell? ⟨b, 3, none⟩ = some v3 ∧ W.cell? ⟨b, 4, none⟩ = some v4 ∧ W.cell? ⟨b, 5, none⟩ = some v5 :=
  ⟨(hb.cell (p := ⟨b, 0, none⟩) hl).trans e0, (hb.cell (p := ⟨b, 1, none⟩) hl).trans e1, (hb.cell (p := ⟨b, 2, none⟩) hl).trans e2, (hb.cell (p := ⟨b, 3, none⟩) hl).trans e3, (hb.cell (p := ⟨b, 4, none⟩) hl).trans e4, (hb.cell (p := ⟨b, 5, none⟩) hl).trans e5⟩
set_option maxHeartbeats 4000000 in
theorem flowSpoilt_walk (w : World) (hl : Laid w) (m1 : Flo.Msg) (A1 : Option Addr) (c1 : Nat) (hs1 : m1.cmd.length ≤ maxLen) (hc1 : m1.body.length ≤ c1) (hm1 : c1 ≤ maxLen) (hat1 : BytesAt w w.heap.size A1 m1.body)
    (m2 : Flo.Msg) (A2 : Option Addr) (c2 : Nat) (hs2 : m2.cmd.length ≤ maxLen) (hc2 : m2.body.length ≤ c2) (hm2 : c2 ≤ maxLen) (hat2 : BytesAt w w.heap.size A2 m2.body)
    (m3 : Flo.Msg) (A3 : Option Addr) (c3 : Nat) (hs3 : m3.cmd.length ≤ maxLen) (hc3 : m3.body.length ≤ c3) (hm3 : c3 ≤ maxLen) (hat3 : BytesAt w w.heap.size A3 m3.body) (a : Int) (wa : (Lit.int .u16 a).wf = true) :
    Calls Tryd.prog 6 #[.agg #[.string ⟨m1.cmd.toArray⟩, .slice A1 m1.body.length c1, .string ⟨m2.cmd.toArray⟩, .slice A2 m2.body.length c2, .string ⟨m3.cmd.toArray⟩, .slice A3 m3.body.length c3], .int .u16 a] w fun r w' => r = .returned (.bool true) ∧ Below w.heap.size w w' := by
  have HL := Lib.hid hl
  have l1 := hl.lc
  have l2 := hl.lf
  obtain ⟨ha0, ha1⟩ := wf_u16 wa
  obtain ⟨s1, hS1⟩ : ∃ s : ByteArray, s = ⟨m1.cmd.toArray⟩ := ⟨_, rfl⟩
  obtain ⟨s2, hS2⟩ : ∃ s : ByteArray, s = ⟨m2.cmd.toArray⟩ := ⟨_, rfl⟩
  obtain ⟨s3, hS3⟩ : ∃ s : ByteArray, s = ⟨m3.cmd.toArray⟩ := ⟨_, rfl⟩
  have HP1 := fun W B hl hb hB hok => fput_yes m1 A1 c1 B W hl hs1 hb hB hc1 hm1 hok
  have HP2 := fun W B hl hb hB hok => fput_yes m2 A2 c2 B W hl hs2 hb hB hc2 hm2 hok
  have HP3 := fun W B hl hb hB hok => fput_yes m3 A3 c3 B W hl hs3 hb hB hc3 hm3 hok
  have HN1 := fun W B hl hb hB => fput_any m1 A1 c1 B W hl hs1 hb hB hc1 hm1
  have HN2 := fun W B hl hb hB => fput_any m2 A2 c2 B W hl hs2 hb hB hc2 hm2
  have HN3 := fun W B hl hb hB => fput_any m3 A3 c3 B W hl hs3 hb hB hc3 hm3
  rw [← hS1] at HP1 HN1 ⊢
  rw [← hS2] at HP2 HN2 ⊢
  rw [← hS3] at HP3 HN3 ⊢
  have HP1' := Lib.hid HP1
  have HP2' := Lib.hid HP2
  have HP3' := Lib.hid HP3
  have HN1' := Lib.hid HN1
  have HN2' := Lib.hid HN2
  have HN3' := Lib.hid HN3
  have HS1 := Lib.hid hS1
  have HS2 := Lib.hid hS2
  have HS3 := Lib.hid hS3
  have HAT1 := Lib.hid hat1
  have HAT2 := Lib.hid hat2
  have HAT3 := Lib.hid hat3
  clear HP1 HP2 HP3 HN1 HN2 HN3 hS1 hS2 hS3 hl hat1 hat2 hat3 wa
  go_enter Tryd.func6, Tryd.ntmps6
  go_wp2_with fail
  obtain ⟨W0, hW0⟩ : ∃ W0, W0 = w.alloc (.cells #[.string s1, .slice A1 m1.body.length c1, .string s2, .slice A2 m2.body.length c2, .string s3, .slice A3 m3.body.length c3] 45) := ⟨_, rfl⟩
  have hz0 : W0.heap.size = w.heap.size + 1 := by rw [hW0]; simp
  have HB0 : Hid (Below w.heap.size w W0) := Lib.hid (by rw [hW0]; exact Joins.below_alloc1 _ _)
  have HK0 : Hid (Bk W0 w.heap.size 45 #[.string s1, .slice A1 m1.body.length c1, .string s2, .slice A2 m2.body.length c2, .string s3, .slice A3 m3.body.length c3]) := Lib.hid (by rw [hW0]; exact Bk.new _ _ _)
  rw [← hW0]
  clear hW0
  refine (flow_alive W0 (HL.out.below HB0.out)).mono ?_
  rintro e w1 ⟨rfl, hb1⟩
  have hz1 := hb1.size
  have HB1 := Lib.hid (HB0.out.trans (hb1.mono (by omega)))
  have HK1 := Lib.hid (HK0.out.below hb1 (by omega))
  clear hb1 HB0 HK0
  have e0 : w1.cell? ⟨w.heap.size, 0, none⟩ = some (.string s1) := (HK1.out.cell 0).trans rfl
  have e1 : w1.cell? ⟨w.heap.size, 1, none⟩ = some (.slice A1 m1.body.length c1) := (HK1.out.cell 1).trans rfl
  have e2 : w1.cell? ⟨w.heap.size, 2, none⟩ = some (.string s2) := (HK1.out.cell 2).trans rfl
  have e3 : w1.cell? ⟨w.heap.size, 3, none⟩ = some (.slice A2 m2.body.length c2) := (HK1.out.cell 3).trans rfl
  have e4 : w1.cell? ⟨w.heap.size, 4, none⟩ = some (.string s3) := (HK1.out.cell 4).trans rfl
  have e5 : w1.cell? ⟨w.heap.size, 5, none⟩ = some (.slice A3 m3.body.length c3) := (HK1.out.cell 5).trans rfl
  have LW1 : w.heap.size < w1.heap.size := by omega
  go_upto_region 3 with (fail)
  go_cut [5, 6, 7] (fun u5 u6 u7 wx => ∃ P1 P2 P3, u5 = .pointer (some ⟨P1, 0, none⟩) ∧ u6 = .pointer (some ⟨P2, 0, none⟩) ∧ u7 = .pointer (some ⟨P3, 0, none⟩) ∧ SpoiltAt w1 (.string s1) (.slice A1 m1.body.length c1) (.string s2) (.slice A2 m2.body.length c2) (.string s3) (.slice A3 m3.body.length c3) P1 P2 P3 wx)
  case first =>
    go_region_held3 (fun w' => w'.cell? ⟨w.heap.size, 0, none⟩ = some (.string s1) ∧ w'.cell? ⟨w.heap.size, 1, none⟩ = some (.slice A1 m1.body.length c1) ∧ w'.cell? ⟨w.heap.size, 2, none⟩ = some (.string s2) ∧ w'.cell? ⟨w.heap.size, 3, none⟩ = some (.slice A2 m2.body.length c2) ∧ w'.cell? ⟨w.heap.size, 4, none⟩ = some (.string s3) ∧ w'.cell? ⟨w.heap.size, 5, none⟩ = some (.slice A3 m3.body.length c3)) ((refine keep6 e0 e1 e2 e3 e4 e5 LW1 ?_; (repeat (first | exact Below.refl _ _ | refine Below.drew ?_ | refine Below.alloc ?_ (by first | (simp; done) | (simp; omega)) _ | refine Below.setCell ?_ (by first | (simp; done) | (simp; omega)) _)))) (fail)
    all_goals
      go_wp2_with fail
      go_meet
      refine ⟨_, _, _, rfl, rfl, rfl, ?_⟩
      first | exact sp123 w1 _ _ _ _ _ _ | exact sp132 w1 _ _ _ _ _ _ | exact sp213 w1 _ _ _ _ _ _ | exact sp231 w1 _ _ _ _ _ _ | exact sp312 w1 _ _ _ _ _ _ | exact sp321 w1 _ _ _ _ _ _
  case rest =>
    obtain ⟨P1, P2, P3, rfl, rfl, rfl, hsp⟩ := hcut
    obtain ⟨hk1, hk2, hk3, hp1, hp2, hp3, hbc⟩ := hsp
    have hzc := hbc.size
    have HBC := Lib.hid (HB1.out.trans (hbc.mono (by omega)))
    have HQ1 := Lib.hid hk1
    have HK2 := Lib.hid hk2
    have HK3 := Lib.hid hk3
    have lP1 := hk1.lt
    have lP2 := hk2.lt
    have lP3 := hk3.lt
    have f0 : wc.cell? ⟨P1, 0, none⟩ = some (.string s1) := (hk1.cell 0).trans rfl
    have f1 : wc.cell? ⟨P1, 1, none⟩ = some (.slice A1 m1.body.length c1) := (hk1.cell 1).trans rfl
    clear hbc hk1 hk2 hk3 HB1 HK1 e0 e1 e2 e3 e4 e5
    by_cases hall : Flo.ok m1 = true ∧ Flo.ok m2 = true ∧ Flo.ok m3 = true
    case neg =>
      go_wp2_with fail
      (with_reducible refine (HN1'.out wc w.heap.size (HL.out.below HBC.out) (HAT1.out.below HBC.out) HBC.out.size).mono ?_)
      rintro e w2 ⟨v2, x2, rfl, hb2, _, hy2⟩
      have HB2 := Lib.hid (HBC.out.trans (hb2.mono (by omega)))
      have hz2 := hb2.size
      have g0 : w2.cell? ⟨P2, 0, none⟩ = some (.string s2) := ((HK2.out.below hb2 lP2).cell 0).trans rfl
      have g1 : w2.cell? ⟨P2, 1, none⟩ = some (.slice A2 m2.body.length c2) := ((HK2.out.below hb2 lP2).cell 1).trans rfl
      have HK32 := Lib.hid (HK3.out.below hb2 lP3)
      have HK22 := Lib.hid (HK2.out.below hb2 lP2)
      have HY2 := Lib.hid hy2
      clear f0 f1 hb2 HBC hy2
      go_wp2_with fail
      (with_reducible refine (HN2'.out w2 w.heap.size (HL.out.below HB2.out) (HAT2.out.below HB2.out) HB2.out.size).mono ?_)
      rintro e w3 ⟨v3, x3, rfl, hb3, _, hy3⟩
      have HB3 := Lib.hid (HB2.out.trans (hb3.mono (by omega)))
      have hz3 := hb3.size
      have f0 : w3.cell? ⟨P3, 0, none⟩ = some (.string s3) := ((HK32.out.below hb3 (by omega)).cell 0).trans rfl
      have f1 : w3.cell? ⟨P3, 1, none⟩ = some (.slice A3 m3.body.length c3) := ((HK32.out.below hb3 (by omega)).cell 1).trans rfl
      have HY3 := Lib.hid hy3
      have HK23 := Lib.hid (HK22.out.below hb3 (by omega))
      clear g0 g1 hb3 HB2 hy3
      go_wp2_with fail
      (with_reducible refine (HN3'.out w3 w.heap.size (HL.out.below HB3.out) (HAT3.out.below HB3.out) HB3.out.size).mono ?_)
      rintro e w4 ⟨v4, x4, rfl, hb4, _, hy4⟩
      have HB4 := Lib.hid (HB3.out.trans (hb4.mono (by omega)))
      have q1 : w4.cell? ⟨P2, 1, none⟩ = some (.slice A2 m2.body.length c2) := ((HK23.out.below hb4 (by omega)).cell 1).trans rfl
      have HY4 := Lib.hid hy4
      clear f0 f1 hb4 HB3 hy4
      by_cases b2 : x2 = 0
      · by_cases b3 : x3 = 0
        · have hb4 : (x4 != 0) = true := by
            rw [bne_iff_ne]
            refine HY4.out ?_
            have h1 : Flo.ok m1 = true := by
              cases h : Flo.ok m1 with
              | true => rfl
              | false => exact absurd b2 (HY2.out h)
            have h2 : Flo.ok m2 = true := by
              cases h : Flo.ok m2 with
              | true => rfl
              | false => exact absurd b3 (HY3.out h)
            cases h : Flo.ok m3 with
            | true => exact absurd ⟨h1, h2, h⟩ hall
            | false => rfl
          subst b2
          subst b3
          clear hall
          go_wp2_with fail
          go_ret
          exact ⟨rfl, HB4.out⟩
        · have hb3 : (x3 != 0) = true := by rw [bne_iff_ne]; exact b3
          subst b2
          clear hall b3
          go_wp2_with fail
          go_ret
          exact ⟨rfl, HB4.out⟩
      · have hb2 : (x2 != 0) = true := by rw [bne_iff_ne]; exact b2
        clear hall b2
        go_wp2_with fail
        go_ret
        exact ⟨rfl, HB4.out⟩
    case pos =>
      obtain ⟨ok1, ok2, ok3⟩ := hall
      go_wp2_with fail
      (with_reducible refine (HP1'.out wc w.heap.size (HL.out.below HBC.out) (HAT1.out.below HBC.out) HBC.out.size ok1).mono ?_)
      rintro e w2 ⟨X, rfl, hX, hkX, hb2⟩
      have HB2 := Lib.hid (HBC.out.trans (hb2.mono (by omega)))
      have hz2 := hb2.size
      have lX := hkX.lt
      obtain ⟨N1, hN1⟩ : ∃ N, N = (Flo.put m1).length := ⟨_, rfl⟩
      rw [← hN1]
      have hN1a : 24 ≤ N1 := by have := (Flo.put_len ok1).1; omega
      have hN1b : N1 ≤ 2072 := by have := Flo.put_len ok1; omega
      have HL1 := Lib.hid hN1
      have HX2 := Lib.hid hkX
      have HK12 := Lib.hid (HQ1.out.below hb2 lP1)
      have HK22 := Lib.hid (HK2.out.below hb2 lP2)
      have HK32 := Lib.hid (HK3.out.below hb2 lP3)
      have g0 : w2.cell? ⟨P2, 0, none⟩ = some (.string s2) := (HK22.out.cell 0).trans rfl
      have g1 : w2.cell? ⟨P2, 1, none⟩ = some (.slice A2 m2.body.length c2) := (HK22.out.cell 1).trans rfl
      clear f0 f1 hb2 HBC hkX hN1 HQ1 HK2 HK3
      go_wp2_with fail
      (with_reducible refine (HP2'.out w2 w.heap.size (HL.out.below HB2.out) (HAT2.out.below HB2.out) HB2.out.size ok2).mono ?_)
      rintro e w3 ⟨Y, rfl, hY, hkY, hb3⟩
      have HB3 := Lib.hid (HB2.out.trans (hb3.mono (by omega)))
      have hz3 := hb3.size
      have lY := hkY.lt
      obtain ⟨N2, hN2⟩ : ∃ N, N = (Flo.put m2).length := ⟨_, rfl⟩
      rw [← hN2]
      have hN2a : N2 = 24 + m2.body.length := by rw [hN2]; exact (Flo.put_len ok2).1
      have hN2b : m2.body.length ≤ 2048 := (Flo.put_len ok2).2
      have HL2 := Lib.hid hN2
      have HN2a := Lib.hid hN2a
      have hN2c : 24 ≤ N2 := by omega
      have hN2d : N2 ≤ 2072 := by omega
      have HY3 := Lib.hid hkY
      have HX3 := Lib.hid (HX2.out.below hb3 lX)
      have HK13 := Lib.hid (HK12.out.below hb3 (by omega))
      have HK23 := Lib.hid (HK22.out.below hb3 (by omega))
      have HK33 := Lib.hid (HK32.out.below hb3 (by omega))
      have f0 : w3.cell? ⟨P3, 0, none⟩ = some (.string s3) := (HK33.out.cell 0).trans rfl
      have f1 : w3.cell? ⟨P3, 1, none⟩ = some (.slice A3 m3.body.length c3) := (HK33.out.cell 1).trans rfl
      clear g0 g1 hb3 HB2 hkY hN2 hN2a HK12 HK22 HK32 HX2
      go_wp2_with fail
      (with_reducible refine (HP3'.out w3 w.heap.size (HL.out.below HB3.out) (HAT3.out.below HB3.out) HB3.out.size ok3).mono ?_)
      rintro e w4 ⟨Z, rfl, hZ, hkZ, hb4⟩
      have HB4 := Lib.hid (HB3.out.trans (hb4.mono (by omega)))
      have hz4 := hb4.size
      have lZ := hkZ.lt
      obtain ⟨N3, hN3⟩ : ∃ N, N = (Flo.put m3).length := ⟨_, rfl⟩
      rw [← hN3]
      have hN3a : 24 ≤ N3 := by have := (Flo.put_len ok3).1; omega
      have hN3b : N3 ≤ 2072 := by have := Flo.put_len ok3; omega
      have HL3 := Lib.hid hN3
      have HZ4 := Lib.hid hkZ
      have HX4 := Lib.hid (HX3.out.below hb4 (by omega))
      have HY4 := Lib.hid (HY3.out.below hb4 lY)
      have HK14 := Lib.hid (HK13.out.below hb4 (by omega))
      have HK24 := Lib.hid (HK23.out.below hb4 (by omega))
      have HK34 := Lib.hid (HK33.out.below hb4 (by omega))
      have q1 : w4.cell? ⟨P2, 1, none⟩ = some (.slice A2 m2.body.length c2) := (HK24.out.cell 1).trans rfl
      clear f0 f1 hb4 HB3 hkZ hN3 HK13 HK23 HK33 HX3 HY3 HP1' HP2' HP3' HN1' HN2' HN3'
      by_cases hz : m2.body.length = 0
      · rw [hz] at q1
        go_wp2_with fail
        go_ret
        exact ⟨rfl, HB4.out⟩
      have hpos : 0 < m2.body.length := by omega
      obtain ⟨z, rfl⟩ : ∃ z : Nat, a = (z : Int) := ⟨a.toNat, by omega⟩
      obtain ⟨i, hi⟩ : ∃ i : Nat, i = z / 8 % m2.body.length := ⟨_, rfl⟩
      have hil : i < m2.body.length := by rw [hi]; exact Nat.mod_lt _ hpos
      obtain ⟨m, hmz⟩ : ∃ m : Nat, m = z % 8 := ⟨_, rfl⟩
      have hm8 : m < 8 := by omega
      have hnz : ¬ ((m2.body.length : Int) = 0) := by omega
      obtain ⟨hi2, hm2', hi3, hm3, hm4⟩ := spoilt_idx z m2.body.length i m (by omega) hpos hi hmz
      have Hi2 := Lib.hid hi2
      have Hm2 := Lib.hid hm2'
      have Hi3 := Lib.hid hi3
      have Hm3 := Lib.hid hm3
      have Hm4 := Lib.hid hm4
      clear hi2 hm2' hi3 hm3 hm4
      have hY := HY4.out
      have hylen : 24 + i < (Flo.put m2).length := by rw [← HL2.out, HN2a.out]; omega
      obtain ⟨x, hx⟩ : ∃ x, (Flo.put m2)[24 + i]? = some x := ⟨(Flo.put m2)[24 + i], List.getElem?_eq_getElem hylen⟩
      have hx' : (Flo.put m2)[24 + i] = x := by rw [List.getElem?_eq_getElem hylen] at hx; exact Option.some.inj hx
      have ci : w4.cell? ⟨Y, 24 + i, none⟩ = some (.int .u8 (x.toNat : Int)) := by
        obtain ⟨bq, oq, hA, _, hcc⟩ := (hY.bytesAt (B := w4.heap.size) (by omega)).cell hylen
        cases hA
        rw [hx', Nat.zero_add] at hcc
        exact hcc
      have fi := hY.frozen (24 + i)
      obtain ⟨y, hy, hyx⟩ := tturn_bit x m hm8
      have hil' : (24 : Int) + (i : Int) < (N2 : Int) := by have := HN2a.out; omega
      have hil0 : (0 : Int) ≤ (i : Int) := by omega
      have hset := hY.setByte (24 + i) y
      have HSET := Lib.hid hset
      have HYX := Lib.hid hyx
      have HNZ := Lib.hid hz
      have HX := Lib.hid hx
      clear hi hmz hz hY hset hyx hx hx' hylen
      have hj1 := spoilt_24 i z m2.body.length (by omega) Hi2.out
      obtain ⟨j, hj⟩ : ∃ j, j = 24 + i := ⟨_, rfl⟩
      rw [← hj] at hj1 ci fi HSET HX
      have hjn : (j : Int) < (N2 : Int) := by omega
      have hj0 : (0 : Int) ≤ (j : Int) := by omega
      have HJ := Lib.hid hj
      have hmz5 := Hm2.out
      clear hj hil' hil0
      go_upto_region 10 with (fail)
      have HB5 := Lib.hid (HB4.out.setCell (p := ⟨Y, j, none⟩) (by show w.heap.size ≤ Y; omega) (.int .u8 (y.toNat : Int)))
      obtain ⟨w5, hw5⟩ : ∃ w5, w5 = w4.setCell ⟨Y, j, none⟩ (.int .u8 (y.toNat : Int)) := ⟨_, rfl⟩
      have k45 : Kp (fun i => i = Y) w4 w5 := by rw [hw5]; exact (Kp.refl (fun i => i = Y) w4).setCell (p := ⟨Y, j, none⟩) (fun _ => rfl) _
      have HY5 : Hid (Bk w5 Y 5 (bytesArr ((Flo.put m2).set j y))) := Lib.hid (by rw [hw5]; exact HSET.out)
      rw [← hw5] at HB5 ⊢
      clear hw5 ci fi hy hj1 HSET q1
      have hz5 := k45.size
      have HX5 := Lib.hid (HX4.out.kp k45 (by omega))
      have HZ5 := Lib.hid (HZ4.out.kp k45 (by omega))
      have HK15 := Lib.hid (HK14.out.kp k45 (by omega))
      have HK25 := Lib.hid (HK24.out.kp k45 (by omega))
      have HK35 := Lib.hid (HK34.out.kp k45 (by omega))
      clear k45
      have q1 : w5.cell? ⟨P2, 1, none⟩ = some (.slice A2 m2.body.length c2) := (HK25.out.cell 1).trans rfl
      have hput : (Flo.put m2).set j y = Frm.headOf m2.cmd m2.body.length (Sha.check m2.body).toNat ++ m2.body.set i y ∧ (Frm.headOf m2.cmd m2.body.length (Sha.check m2.body).toNat).length = 24 := by
        have hk := ok2
        simp only [Flo.ok, Bool.and_eq_true, decide_eq_true_eq] at hk
        have hl := Frm.headOf_len (named_len hk.1).2.1 m2.body.length (Sha.check m2.body).toNat
        refine ⟨?_, hl⟩
        rw [HJ.out]
        unfold Flo.put
        rw [Frm.put_head, List.set_append_right _ _ (by omega), hl, Nat.add_sub_cancel_left]
      have hat5 := (HY5.out.bytesAt (B := w5.heap.size) (by omega)).drop 24
      rw [hput.1, List.drop_left' hput.2, Nat.zero_add] at hat5
      have hsl : (m2.body.set i y).length = N2 - 24 := by rw [List.length_set]; have := HN2a.out; omega
      have HC1 : Hid (∀ W, Below w5.heap.size w5 W → Calls Tryd.prog 20 #[.slice (some ⟨Y, 24, none⟩) (N2 - 24) (N2 - 24)] W fun e w' => e = .returned (.int .u32 ((Sha.check (m2.body.set i y)).toNat : Int)) ∧ Below W.heap.size W w') := Lib.hid fun W hW =>
        check_ref (some ⟨Y, 24, none⟩) (N2 - 24) (N2 - 24) w5.heap.size (m2.body.set i y) W hsl (Nat.le_refl _) (by unfold maxLen; omega) (by omega) (hat5.below hW) hW.size
      have HC2 : Hid (∀ W, Below w5.heap.size w5 W → Calls Tryd.prog 20 #[.slice A2 m2.body.length c2] W fun e w' => e = .returned (.int .u32 ((Sha.check m2.body).toNat : Int)) ∧ Below W.heap.size W w') := Lib.hid fun W hW =>
        check_ref A2 m2.body.length c2 w.heap.size m2.body W rfl hc2 hm2 (by omega) ((HAT2.out.below HB5.out).below (hW.mono HB5.out.size)) (by have := HB5.out.size; have := hW.size; omega)
      have h24 : ¬ (N2 = 24) := by have := HN2a.out; omega
      have h24' : (24 : Int) ≤ (N2 : Int) := by omega
      have LP2 : P2 < w5.heap.size := by omega
      obtain ⟨t1, ht1⟩ : ∃ t, t = (Sha.check (m2.body.set i y)).toNat := ⟨_, rfl⟩
      obtain ⟨t2, ht2⟩ : ∃ t, t = (Sha.check m2.body).toNat := ⟨_, rfl⟩
      rw [← ht1] at HC1
      rw [← ht2] at HC2
      have HT1 := Lib.hid ht1
      have HT2 := Lib.hid ht2
      have HB55 := Lib.hid (Below.refl w5.heap.size w5)
      clear hput hat5 hsl ht1 ht2 HX4 HZ4 HK14 HK24 HK34
      go_region_held3 (fun w' => w'.cell? ⟨P2, 1, none⟩ = some (.slice A2 m2.body.length c2)) (first | go_keep | exact (hb6.cell (p := ⟨P2, 1, none⟩) LP2).trans q1 | exact (hb7.cell (p := ⟨P2, 1, none⟩) (Nat.lt_of_lt_of_le LP2 hb6.size)).trans ((hb6.cell (p := ⟨P2, 1, none⟩) LP2).trans q1)) (first
        | (go_at_call 20; (with_reducible refine (HC1.out _ (by first | exact HB55.out.drew | exact below_drewN HB55.out _ | exact HB55.out)).mono ?_); rintro e w6 ⟨rfl, hb6'⟩; have hb6 : Below w5.heap.size w5 w6 := HB55.out.drew.trans hb6'; clear hb6')
        | (go_at_call 20; (with_reducible refine (HC2.out _ hb6).mono ?_); rintro e w7 ⟨rfl, hb7⟩))
      have HB6 := Lib.hid (HB5.out.trans (hb6.mono (by omega)))
      have hz6 := hb6.size
      have hz7 := hb7.size
      have b57 : Below w5.heap.size w5 w7 := hb6.trans (hb7.mono (by omega))
      have HB7 := Lib.hid (HB6.out.trans (hb7.mono (by omega)))
      have HX7 := Lib.hid (HX5.out.below b57 (by omega))
      have HY7 := Lib.hid (HY5.out.below b57 (by omega))
      have HZ7 := Lib.hid (HZ5.out.below b57 (by omega))
      have HK17 := Lib.hid (HK15.out.below b57 (by omega))
      have HK37 := Lib.hid (HK35.out.below b57 (by omega))
      clear hb6 hb7 b57 HB6 HB5 HX5 HY5 HZ5 HK15 HK25 HK35 q1 HC1 HC2 HB55 h24 h24' hmz5
      by_cases ht : t1 = t2
      · have ht' : ((t1 : Int) == (t2 : Int)) = true := by rw [ht]; simp
        clear ht
        go_wp2_with fail
        go_ret
        exact ⟨rfl, HB7.out⟩
      have ht' : ((t1 : Int) == (t2 : Int)) = false := by simp; omega
      have hrun := Flo.run_spoilt (i := i) (y := y) ok1 ok2 ok3 (fun e => ht (by rw [HT1.out, HT2.out, e]))
      rw [← HJ.out] at hrun
      have HRUN := Lib.hid hrun
      clear ht hrun
      go_wp2_with fail
      (with_reducible refine (flowNew_any w7).mono ?_)
      rintro e w9 ⟨rfl, hk9, hz9, hb9⟩
      obtain ⟨F, hF⟩ : ∃ F, F = w7.heap.size := ⟨_, rfl⟩
      rw [← hF] at hk9 ⊢
      have hF7 : w7.heap.size ≤ F := by omega
      have LF9 := hk9.lt
      have HF9 := Lib.hid hk9
      have HB9 := Lib.hid (HB7.out.trans (hb9.mono (by omega)))
      have HX9 := Lib.hid (HX7.out.below hb9 (by omega))
      have HY9 := Lib.hid (HY7.out.below hb9 (by omega))
      have HZ9 := Lib.hid (HZ7.out.below hb9 (by omega))
      have HK19 := Lib.hid (HK17.out.below hb9 (by omega))
      have HK39 := Lib.hid (HK37.out.below hb9 (by omega))
      obtain ⟨ib, hi, hz, hz', hz''⟩ := info_parts byte_info
      have Bi := Lib.hid hi
      have Bz := Lib.hid hz
      have Bz1 := Lib.hid hz'
      have Bz2 := Lib.hid hz''
      obtain ⟨Q1, hQ1⟩ : ∃ Q, Q = Flo.put m1 := ⟨_, rfl⟩
      obtain ⟨Q2, hQ2⟩ : ∃ Q, Q = (Flo.put m2).set j y := ⟨_, rfl⟩
      obtain ⟨Q3, hQ3⟩ : ∃ Q, Q = Flo.put m3 := ⟨_, rfl⟩
      have hq1 : Q1.length = N1 := by rw [hQ1]; exact HL1.out.symm
      have hq2 : Q2.length = N2 := by rw [hQ2, List.length_set]; exact HL2.out.symm
      have hq3 : Q3.length = N3 := by rw [hQ3]; exact HL3.out.symm
      rw [← hQ1] at HX9 HRUN
      rw [← hQ2] at HY9 HRUN
      rw [← hQ3] at HZ9 HRUN
      have kO := Bk.new w9 5 (bytesArr [])
      have HO := Lib.hid (kO.own (base := w9.heap.size) (Nat.le_refl _) (by simp [maxLen]))
      have HSX := Lib.hid (BytesAt.src ((HX9.out.alloc (.cells (bytesArr []) 5)).bytesAt (B := w9.heap.size) (by omega)))
      have HLX : Hid ((Q1.map byteV).length = N1 * 1) := Lib.hid (by rw [List.length_map, hq1, Nat.mul_one])
      have HLY : Hid ((Q2.map byteV).length = N2 * 1) := Lib.hid (by rw [List.length_map, hq2, Nat.mul_one])
      have HLZ : Hid ((Q3.map byteV).length = N3 * 1) := Lib.hid (by rw [List.length_map, hq3, Nat.mul_one])
      have HQ1 := Lib.hid hq1
      have HQ2 := Lib.hid hq2
      have HQ3 := Lib.hid hq3
      have lY9 : Y < w9.heap.size := by omega
      have lZ9 : Z < w9.heap.size := by omega
      clear hF hz9 hk9 hb9 hi hz hz' hz'' hQ1 hQ2 hQ3 hq1 hq2 hq3 kO HB7 HX7 HY7 HZ7 HK17 HK37 HT1 HT2 HL1 HL2 HL3 HX HYX HNZ HN2a HJ Hi2 Hm2 Hi3 Hm3 Hm4
      go_wp2_with (first
        | (at_builtin; refine wpList_app _ rfl (.tmp 87) (.tmp 88) _ rfl w9.heap.size 5 ib _ 1 1 Tryd.underlying28 Bi.out Bz.out Bz1.out Bz2.out rfl (by decide) (.slice (some ⟨w9.heap.size, 0, none⟩) 0 0) 0 [] rfl HO.out (some ⟨X, 0, none⟩) N1 N1 (Q1.map byteV) rfl HLX.out HSX.out (oneCell_bytes _) (by unfold maxLen; omega) (by omega) (by simp) ?_; intro v10 w10 hrow10 hg10 hat10; have k10 : Kp (fun _ => False) w9 w10 := ((Kp.refl (fun _ => False) w9).alloc _).grown hg10 (fun k hk hl => by simp only [Value.ownBlock, Option.some.injEq] at hk; omega); rw [Nat.zero_add, List.nil_append] at hrow10; have hz10 := k10.size; have HK10 := Lib.hid k10; have HR10 := Lib.hid hrow10; have HSY := Lib.hid (BytesAt.src ((HY9.out.kp k10 (fun h => h)).bytesAt (B := w9.heap.size) lY9)); clear k10 hrow10 hg10 hat10)
        | (at_builtin; refine wpList_app _ rfl (.tmp 89) (.tmp 90) _ rfl w9.heap.size 5 ib _ 1 1 Tryd.underlying28 Bi.out Bz.out Bz1.out Bz2.out rfl (by decide) v10 N1 (Q1.map byteV) rfl HR10.out (some ⟨Y, 0, none⟩) N2 N2 (Q2.map byteV) rfl HLY.out HSY.out (oneCell_bytes _) (by unfold maxLen; omega) (by omega) hz10 ?_; intro v11 w11 hrow11 hg11 hat11; have k11 : Kp (fun _ => False) w9 w11 := HK10.out.grown hg11 (fun k hk hl => by have := (own_lt HR10.out k hk).1; omega); have hz11 := k11.size; have HK11 := Lib.hid k11; have HR11 := Lib.hid hrow11; have HSZ := Lib.hid (BytesAt.src ((HZ9.out.kp k11 (fun h => h)).bytesAt (B := w9.heap.size) lZ9)); clear k11 hrow11 hg11 hat11)
        | (at_builtin; refine wpList_app _ rfl (.tmp 91) (.tmp 92) _ rfl w9.heap.size 5 ib _ 1 1 Tryd.underlying28 Bi.out Bz.out Bz1.out Bz2.out rfl (by decide) v11 (N1 + N2) (Q1.map byteV ++ Q2.map byteV) rfl HR11.out (some ⟨Z, 0, none⟩) N3 N3 (Q3.map byteV) rfl HLZ.out HSZ.out (oneCell_bytes _) (by unfold maxLen; omega) (by omega) hz11 ?_; intro v12 w12 hrow12 hg12 hat12; have k12 : Kp (fun _ => False) w9 w12 := HK11.out.grown hg12 (fun k hk hl => by have := (own_lt HR11.out k hk).1; omega); have hz12 := k12.size; have HK12 := Lib.hid k12; have HR12 := Lib.hid hrow12; clear k12 hrow12 hg12 hat12))
      have hTl : (Q1 ++ Q2 ++ Q3).length = N1 + N2 + N3 := by rw [List.length_append, List.length_append, HQ1.out, HQ2.out, HQ3.out]
      have hown : OwnB w12 w9.heap.size v12 (Q1 ++ Q2 ++ Q3) := by
        unfold OwnB; rw [hTl, List.map_append, List.map_append]; exact HR12.out
      obtain ⟨A12, c12, rfl, hn12, hm12, hat12, hbl12⟩ := hown.at_
      have HB12 := Lib.hid (HB9.out.trans (HK12.out.below.mono (by have := HB9.out.size; omega)))
      have h1 := feed_any F w12.heap.size c12 A12 (Q1 ++ Q2 ++ Q3) _ _ w12 (by omega) (Nat.le_refl _) (FlowS.new w w12.heap.size w12 F (HF9.out.kp HK12.out (fun h => h))) hat12 (fun a ha _ => by have := (hbl12 a ha).1; omega) (HL.out.below HB12.out) (by omega) (by omega) (by omega) (by omega) (by rw [hTl]; omega) hn12 hm12
      rw [Flo.feed_new, HRUN.out, hTl] at h1
      have HF1 := Lib.hid h1
      have HK112 := Lib.hid (HK19.out.kp HK12.out (fun h => h))
      have HK312 := Lib.hid (HK39.out.kp HK12.out (fun h => h))
      rw [hTl]
      have lF12 : F < w12.heap.size := by omega
      clear h1 hTl hown hn12 hm12 hat12 hbl12 HR10 HR11 HR12 HSX HSY HSZ HLX HLY HLZ HK10 HK11 HK12 HX9 HY9 HZ9 HK19 HK39 HF9 HB9 HO HRUN HQ1 HQ2 HQ3 Bi Bz Bz1 Bz2
      (with_reducible refine HF1.out.mono ?_)
      rintro e w13 ⟨vl, rfl, vb, hfs13, hside13⟩
      have hkp13 : Kp (fun i => i = F) w12 w13 := hside13.kp.mono (fun i _ h => h.elim (fun h => h) (fun h => by cases h))
      have hz13 := hkp13.size
      have HB13 := Lib.hid (HB12.out.trans (hkp13.low_from (B := w.heap.size) (fun i hi e => by omega) (by omega)))
      have hk1 := HK112.out.kp hkp13 (by omega)
      have hk3 := HK312.out.kp hkp13 (by omega)
      have f0 : w13.cell? ⟨P1, 0, none⟩ = some (.string s1) := (hk1.cell 0).trans rfl
      have f1 : w13.cell? ⟨P1, 1, none⟩ = some (.slice A1 m1.body.length c1) := (hk1.cell 1).trans rfl
      have g0 : w13.cell? ⟨P3, 0, none⟩ = some (.string s3) := (hk3.cell 0).trans rfl
      have g1 : w13.cell? ⟨P3, 1, none⟩ = some (.slice A3 m3.body.length c3) := (hk3.cell 1).trans rfl
      obtain ⟨A13, c13, rfl, _, _, hit13⟩ := hside13.row.at_
      obtain ⟨W, hW⟩ : ∃ W, W = w13.alloc (.cells #[.string s1, .slice A1 m1.body.length c1, .int .i64 0, .string ⟨#[]⟩, .slice none 0 0, .int .i64 7, .string s3, .slice A3 m3.body.length c3, .int .i64 0] 52) := ⟨_, rfl⟩
      have hbW : Below w13.heap.size w13 W := by rw [hW]; exact Joins.below_alloc1 _ _
      have hzW := hbW.size
      have hkW : Bk W w13.heap.size 52 #[.string s1, .slice A1 m1.body.length c1, .int .i64 0, .string ⟨#[]⟩, .slice none 0 0, .int .i64 7, .string s3, .slice A3 m3.body.length c3, .int .i64 0] := by rw [hW]; exact Bk.new _ _ _
      have HBW := Lib.hid (HB13.out.trans (hbW.mono (by omega)))
      have hitW : ItemsAt W W.heap.size (some ⟨w13.heap.size, 0, none⟩) [Flo.said m1, ⟨[], [], 7⟩, Flo.said m3] := itemsAt_bk [(Flo.said m1, .slice A1 m1.body.length c1), (⟨[], [], 7⟩, .slice none 0 0), (Flo.said m3, .slice A3 m3.body.length c3)] (by simpa [itemPair, itemCells, Flo.said, HS1.out, HS3.out] using hkW) (by
        intro p hp
        simp only [List.mem_cons, List.not_mem_nil, or_false] at hp
        rcases hp with rfl | rfl | rfl
        · exact ⟨A1, c1, rfl, hc1, hm1, (HAT1.out.below HBW.out).mono HBW.out.size⟩
        · exact ⟨none, 0, rfl, Nat.le_refl _, by simp [maxLen], At.nil _ _ _⟩
        · exact ⟨A3, c3, rfl, hc3, hm3, (HAT3.out.below HBW.out).mono HBW.out.size⟩)
      have hsm := isame_any A13 (some ⟨w13.heap.size, 0, none⟩) c13 3 [Flo.said m1, ⟨[], [], 7⟩, Flo.said m3] W (by simp) (ItemsAt.mono (hit13.below hbW) hzW) hitW
      rw [show [Flo.said m1, (⟨[], [], 7⟩ : Flo.Item), Flo.said m3].length = 3 from rfl] at hsm
      have HSM := Lib.hid hsm
      clear hsm hitW hkW hbW hit13 hside13 hfs13 hkp13 hk1 hk3 HK112 HK312 HF1 HB12
      simp only [List.length_cons, List.length_nil]
      go_wp2_with fail
      rw [← hW]
      clear hW f0 f1 g0 g1
      (with_reducible refine HSM.out.mono ?_)
      rintro e w14 ⟨rfl, hb14⟩
      have HB14 := Lib.hid (HBW.out.trans (hb14.mono (by have := HBW.out.size; omega)))
      clear hb14
      go_wp2_with fail
      go_ret
      exact ⟨rfl, HB14.out⟩
end Go.Proofs.YteebehmmfkapgaaDoor
