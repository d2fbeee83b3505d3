/- A transaction that is cut off; bytes that are read and put again. -/
import Derived.Test.YtmekgidfdlckoaaTxAlive
namespace Go.Proofs.Ytmekgidfdlckoaa
open Go.RowKit Go.Deep T7
set_option linter.unusedVariables false
set_option linter.unusedSimpArgs false
set_option maxRecDepth 100000
attribute [local go_sem ↓] Go.wp_at_zero Go.wp_at_succ

/-- a transaction in a variable -/
theorem tx_box (w : World) (t : Txs.Tx) (A A' : Option Addr) (c c' : Nat) : ∃ w1, w1 = w.alloc (.cells #[.int .u32 (t.version : Int), .slice A t.ins.length c, .slice A' t.outs.length c'] 28) ∧
    Below w.heap.size w w1 ∧ w1.heap.size = w.heap.size + 1 ∧ Bk w1 w.heap.size 28 #[.int .u32 (t.version : Int), .slice A t.ins.length c, .slice A' t.outs.length c'] :=
  ⟨_, rfl, Joins.below_alloc1 _ _, by simp, Bk.new _ _ _⟩
theorem tx_cells {w : World} {g : Nat} {t : Txs.Tx} {A A' : Option Addr} {c c' : Nat} (h : Bk w g 28 #[.int .u32 (t.version : Int), .slice A t.ins.length c, .slice A' t.outs.length c']) :
    w.cell? ⟨g, 0, none⟩ = some (.int .u32 (t.version : Int)) ∧ w.cell? ⟨g, 1, none⟩ = some (.slice A t.ins.length c) ∧ w.cell? ⟨g, 2, none⟩ = some (.slice A' t.outs.length c') :=
  ⟨(h.cell 0).trans rfl, (h.cell 1).trans rfl, (h.cell 2).trans rfl⟩
set_option maxHeartbeats 4000000 in
theorem txCuts_walk (w : World) (t : Txs.Tx) (A : Option Addr) (c : Nat) (A' : Option Addr) (c' : Nat) (h : TxAt w w.heap.size t A c A' c') (a : Int) (ha : (Lit.int .u16 a).wf = true) :
    Calls Try.prog 5 #[txV t A c A' c', .int .u16 a] w fun e w' => e = .returned (.bool true) ∧ Below w.heap.size w w' := by
  obtain ⟨ha0, ha1⟩ := wf_u16 ha
  obtain ⟨w1, hw1, hb1, hz1, hk1⟩ := tx_box w t A A' c c'
  have HB1 := Lib.hid hb1
  have HZ1 := Lib.hid hz1
  have HK1 := Lib.hid hk1
  have HT := Lib.hid h
  unfold txV
  clear hb1 hz1 hk1 h
  go_enter Try.func5, Try.ntmps5
  go_wp2_with fail
  rw [← hw1]
  clear hw1
  refine (tx_alive w1).mono ?_
  rintro e w2 ⟨rfl, hb2⟩
  have HB2 := Lib.hid (HB1.out.trans (hb2.mono HB1.out.size))
  have HK2 := Lib.hid (HK1.out.below hb2 (by rw [HZ1.out]; omega))
  have hz2 : w.heap.size + 1 ≤ w2.heap.size := by rw [← HZ1.out]; exact hb2.size
  have HT2 := Lib.hid (HT.out.below HB2.out)
  obtain ⟨k0, k1, k2⟩ := tx_cells HK2.out
  clear hb2
  have HG := Lib.hid (great_any t A A' c c' _ w2 HT2.out HB2.out.size)
  unfold txV at HG
  go_wp2_with fail
  refine HG.out.mono ?_
  rintro e w3 ⟨rfl, hb3⟩
  have HB3 := Lib.hid (HB2.out.trans (hb3.mono HB2.out.size))
  have HK3 := Lib.hid (HK2.out.below hb3 (by omega))
  have HT3 := Lib.hid (HT.out.below HB3.out)
  have hz3 := hb3.size
  clear hb3 HG k0 k1 k2
  cases hg : greatB t with
  | true =>
    go_wp2_with fail
    go_ret
    exact ⟨rfl, HB3.out⟩
  | false =>
    clear hg
    obtain ⟨k0, k1, k2⟩ := tx_cells HK3.out
    by_cases hf : Txs.form t = true
    · have HP := Lib.hid (put_yes t A A' c c' _ w3 HT3.out HB3.out.size hf)
      unfold txV at HP
      have hlen := Txs.bytes_len HT.out.ok
      have hsm := Txs.bytes_small HT.out.ok hf
      have HOK := Lib.hid HT.out.ok
      have HF := Lib.hid hf
      obtain ⟨n, hn⟩ : ∃ n, n = (Txs.bytes t).length := ⟨_, rfl⟩
      have hn6 : 6 ≤ n := by omega
      have hn2 : n ≤ 2000 := by omega
      have HN := Lib.hid hn
      clear hf hlen hsm hn
      go_wp2_with fail
      refine HP.out.mono ?_
      rintro e w4 ⟨v4, rfl, ho4, hb4⟩
      obtain ⟨A4, c4, rfl, hc4, hm4, hat4, _⟩ := ho4.at_
      rw [← HN.out] at hc4 ⊢
      have HB4 := Lib.hid (HB3.out.trans (hb4.mono HB3.out.size))
      obtain ⟨q, off, rfl, _, _⟩ := hat4.cell (i := 0) (by rw [← HN.out]; omega)
      have HA4 := Lib.hid hat4
      obtain ⟨k, hk⟩ : ∃ k : Nat, a % (n : Int) = (k : Int) := ⟨(a % (n : Int)).toNat, by rw [Int.toNat_of_nonneg (Int.emod_nonneg _ (by omega))]⟩
      have hkn : k < n := by have := Int.emod_lt_of_pos a (show (0 : Int) < (n : Int) by omega); omega
      have hrem : (a : Int).tmod (n : Int) = (k : Int) := by rw [IntWalk.rem_in _ _ ha0, hk]
      have hn0 : (n : Int) ≠ 0 := by omega
      have hkc : (k : Int) ≤ (c4 : Int) := by omega
      have hkc2 : k ≤ c4 := by omega
      have hm4' := hm4
      unfold maxLen at hm4'
      have hl : ((Txs.bytes t).take k).length = k := by rw [List.length_take, ← HN.out]; omega
      have HGE := Lib.hid (get_any (some ⟨q, off, none⟩) k c4 _ ((Txs.bytes t).take k) w4 hl hkc2 hm4 (by omega) (BytesAt.take HA4.out k) (Nat.le_refl _))
      rw [Txs.get_cut HOK.out HF.out (by rw [← HN.out]; exact hkn)] at HGE
      have HWE := fun W (hb : Below w4.heap.size w4 W) => Lib.hid (whole_any (some ⟨q, off, none⟩) k c4 _ ((Txs.bytes t).take k) W hl hkc2 hm4 (by omega) (At.below (BytesAt.take HA4.out k) hb) hb.size)
      rw [Txs.whole_cut HOK.out HF.out (by rw [← HN.out]; exact hkn)] at HWE
      have HWE := Lib.hid HWE
      clear hb4 ho4 hat4 HP hl hm4 k0 k1 k2 hkn
      go_wp2_with fail
      refine HGE.out.mono ?_
      rintro e w5 ⟨A5, c5, A5', c5', rfl, _, hb5⟩
      have HB45 := Lib.hid hb5
      have HB5 := Lib.hid (HB4.out.trans (hb5.mono HB4.out.size))
      rw [show txV (Txs.none, 0, (4 : Int)).1 A5 c5 A5' c5' = .agg #[.int .u32 0, .slice A5 0 c5, .slice A5' 0 c5'] from rfl]
      clear hb5 HGE
      go_upto_region 12 with (fail)
      obtain ⟨w6, hw6⟩ : ∃ w6, w6 = w5.alloc (.cells #[.int .u32 0, .slice A5 0 c5, .slice A5' 0 c5'] 28) := ⟨_, rfl⟩
      have HB56 := Lib.hid (show Below w5.heap.size w5 w6 by rw [hw6]; exact Joins.below_alloc1 _ _)
      have HK6 := Lib.hid (show Bk w6 w5.heap.size 28 #[.int .u32 0, .slice A5 0 c5, .slice A5' 0 c5'] by rw [hw6]; exact Bk.new _ _ _)
      rw [← hw6]
      clear hw6
      go_wp2_with fail
      refine (HWE.out w6 (HB45.out.trans (HB56.out.mono HB45.out.size))).out.mono ?_
      rintro e w7 ⟨A7, c7, A7', c7', rfl, _, hb7⟩
      have HB7 := Lib.hid ((HB5.out.trans (HB56.out.mono HB5.out.size)).trans (hb7.mono (Nat.le_trans HB5.out.size HB56.out.size)))
      have HK7 := Lib.hid (HK6.out.below hb7 HK6.out.lt)
      have hz7 := hb7.size
      rw [show txV (Txs.none, (4 : Int)).1 A7 c7 A7' c7' = .agg #[.int .u32 0, .slice A7 0 c7, .slice A7' 0 c7'] from rfl]
      clear hb7 HWE
      go_upto_region 13 with (fail)
      obtain ⟨w8, hw8⟩ : ∃ w8, w8 = w7.alloc (.cells #[.int .u32 0, .slice A7 0 c7, .slice A7' 0 c7'] 28) := ⟨_, rfl⟩
      have HB8 := Lib.hid (show Below w.heap.size w w8 by rw [hw8]; exact HB7.out.trans ((Joins.below_alloc1 _ _).mono HB7.out.size))
      have HK8 := Lib.hid (show Bk w8 w5.heap.size 28 #[.int .u32 0, .slice A5 0 c5, .slice A5' 0 c5'] by rw [hw8]; exact HK7.out.alloc _)
      rw [← hw8]
      clear hw8
      have e1 : w8.cell? ⟨w5.heap.size, 1, none⟩ = some (.slice A5 0 c5) := (HK8.out.cell 1).trans rfl
      have e2 : w8.cell? ⟨w5.heap.size, 2, none⟩ = some (.slice A5' 0 c5') := (HK8.out.cell 2).trans rfl
      go_wp2_with fail
      go_ret
      exact ⟨rfl, HB8.out⟩
    · have hf' : Txs.form t = false := by simpa using hf
      have HP := Lib.hid (put_no t A A' c c' _ w3 HT3.out HB3.out.size hf')
      unfold txV at HP
      clear hf hf'
      go_wp2_with fail
      refine HP.out.mono ?_
      rintro e w4 ⟨rfl, hb4⟩
      have HB4 := Lib.hid (HB3.out.trans (hb4.mono HB3.out.size))
      clear hb4 HP
      go_wp2_with fail
      go_ret
      exact ⟨rfl, HB4.out⟩
set_option maxHeartbeats 4000000 in
theorem txOne_walk (w : World) (A : Option Addr) (n c : Nat) (b : List UInt8) (hl : b.length = n) (hc : n ≤ c) (hm : c ≤ maxLen) (hat : BytesAt w w.heap.size A b) :
    Calls Try.prog 6 #[.slice A n c] w fun e w' => e = .returned (.bool true) ∧ Below w.heap.size w w' := by
  by_cases h5 : 5000 < n
  · have h5' : (5000 : Int) < (n : Int) := by omega
    clear h5 hat hl
    go_enter Try.func6, Try.ntmps6
    go_wp2_with fail
    refine (tx_alive w).mono ?_
    rintro e w2 ⟨rfl, hb2⟩
    have HB2 := Lib.hid hb2
    clear hb2
    go_wp2_with fail
    go_ret
    exact ⟨rfl, HB2.out⟩
  have h5' : ¬ (5000 : Int) < (n : Int) := by omega
  have HAT := Lib.hid hat
  have HL := Lib.hid hl
  have HGE := Lib.hid (fun W (hb : Below w.heap.size w W) => get_any A n c _ b W hl hc hm (by omega) (At.below HAT.out hb) hb.size)
  have HBK := Lib.hid (Txs.get_back b)
  unfold maxLen at hm
  clear hat hl
  go_enter Try.func6, Try.ntmps6
  go_wp2_with fail
  refine (tx_alive w).mono ?_
  rintro e w2 ⟨rfl, hb2⟩
  have HB2 := Lib.hid hb2
  clear hb2
  generalize Txs.get b = r at *
  obtain ⟨t, m, er⟩ := r
  simp only at HBK HGE
  go_wp2_with fail
  refine (HGE.out w2 HB2.out).mono ?_
  rintro e w3 ⟨A3, c3, A3', c3', rfl, hn3, hb3⟩
  have HB3 := Lib.hid (HB2.out.trans (hb3.mono HB2.out.size))
  have HN3 := Lib.hid hn3
  unfold txV
  clear hb3 hn3
  simp only
  go_upto_region 6 with (fail)
  obtain ⟨w4, hw4, hb4, hz4, hk4⟩ := tx_box w3 t A3 A3' c3 c3'
  rw [← hw4]
  have HB4 := Lib.hid (HB3.out.trans (hb4.mono HB3.out.size))
  have HK4 := Lib.hid hk4
  have HT4 := Lib.hid ((TxNew.at_ HN3.out |>.below hb4).mono hb4.size)
  clear hw4 hb4 hk4
  rcases HBK.out with ⟨h1, h2, h3⟩ | ⟨h1, h2, h3, h4, h5⟩
  · have he : (er != 0) = true := by rw [bne_iff_ne]; exact h1
    subst h3
    clear h1 h2 HBK
    go_wp2_with fail
    go_ret
    exact ⟨rfl, HB4.out⟩
  · subst h1
    rw [HL.out] at h4
    have HF := Lib.hid h3
    have HBE := Lib.hid h5
    have hm4 : (m : Int) ≤ (n : Int) := by omega
    have hmc : m ≤ c := by omega
    have hmc' : (m : Int) ≤ (c : Int) := by omega
    have HBL := Lib.hid (show (Txs.bytes t).length = m by rw [h5, List.length_take, HL.out]; omega)
    have HP := Lib.hid (put_yes t A3 A3' c3 c3' _ w4 HT4.out (Nat.le_refl _) h3)
    unfold txV at HP
    obtain ⟨k0, k1, k2⟩ := tx_cells HK4.out
    clear h2 h3 h5 HBK
    go_wp2_with fail
    refine HP.out.mono ?_
    rintro e w5 ⟨v5, rfl, ho5, hb5⟩
    obtain ⟨A5, c5, rfl, hc5, hm5, hat5, _⟩ := ho5.at_
    have HK5 := Lib.hid (HK4.out.below hb5 HK4.out.lt)
    have HT5 := Lib.hid ((HT4.out.below hb5).mono hb5.size)
    have HB5 := Lib.hid (HB4.out.trans (hb5.mono HB4.out.size))
    have HA5 := Lib.hid hat5
    have HS := Lib.hid (size_yes t A3 A3' c3 c3' _ w5 HT5.out (Nat.le_refl _) HF.out)
    unfold txV at HS
    rw [HBL.out] at HS hc5 ⊢
    clear hb5 hat5 ho5 k0 k1 k2 HP
    obtain ⟨k0, k1, k2⟩ := tx_cells HK5.out
    go_wp2_with fail
    refine HS.out.mono ?_
    rintro e w6 ⟨rfl, hb6⟩
    have HB6 := Lib.hid (HB5.out.trans (hb6.mono HB5.out.size))
    have HSM := Lib.hid (same_yes A5 A m m c5 c (Txs.bytes t) w6 w5.heap.size w.heap.size HBL.out HBL.out (by omega) (At.below HA5.out hb6) (by rw [HBE.out]; exact BytesAt.take (At.below HAT.out HB6.out) m))
    clear hb6 HS k0 k1 k2
    go_wp2_with fail
    refine HSM.out.mono ?_
    rintro e w7 ⟨rfl, hb7⟩
    have HB7 := Lib.hid (HB6.out.trans (hb7.mono HB6.out.size))
    clear hb7
    go_wp2_with fail
    go_ret
    exact ⟨rfl, HB7.out⟩
end Go.Proofs.Ytmekgidfdlckoaa
