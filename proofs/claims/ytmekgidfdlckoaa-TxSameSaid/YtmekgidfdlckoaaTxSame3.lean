/- With a bit turned it is another one. -/
import Derived.Test.YtmekgidfdlckoaaTxBack
import Derived.Test.YtmekgidfdlckoaaTurn
namespace Go.Proofs.Ytmekgidfdlckoaa
open Go.RowKit Go.Deep T7
set_option linter.unusedVariables false
set_option linter.unusedSimpArgs false
set_option maxRecDepth 100000
attribute [local go_sem ↓] Go.wp_at_zero Go.wp_at_succ

set_option maxHeartbeats 4000000 in
theorem txSame_walk (w : World) (t : Txs.Tx) (A : Option Addr) (c : Nat) (A' : Option Addr) (c' : Nat) (h : TxAt w w.heap.size t A c A' c') (z : Int) (hz : (Lit.int .u16 z).wf = true) :
    Calls Try.prog 9 #[txV t A c A' c', .int .u16 z] w fun e w' => e = .returned (.bool true) ∧ Below w.heap.size w w' := by
  obtain ⟨hz0, hz1⟩ := wf_u16 hz
  obtain ⟨w1, hw1, hb1, hz1', hk1⟩ := tx_box w t A A' c c'
  have HB1 := Lib.hid hb1
  have HZ1 := Lib.hid hz1'
  have HK1 := Lib.hid hk1
  have HT := Lib.hid h
  unfold txV
  clear hb1 hz1' hk1 h
  go_enter Try.func9, Try.ntmps9
  go_wp2_with fail
  rw [← hw1]
  clear hw1
  refine (tx_alive w1).mono ?_
  rintro e w2 ⟨rfl, hb2⟩
  have HB2 := Lib.hid (HB1.out.trans (hb2.mono HB1.out.size))
  have HK2 := Lib.hid (HK1.out.below hb2 (by rw [HZ1.out]; omega))
  have hz2 : w.heap.size + 1 ≤ w2.heap.size := by rw [← HZ1.out]; exact hb2.size
  have HT2 := Lib.hid (HT.out.below HB2.out)
  obtain ⟨k0, k1, k2⟩ := tx_cells HK2.out
  clear hb2
  have HG := Lib.hid (great_any t A A' c c' _ w2 HT2.out HB2.out.size)
  unfold txV at HG
  go_wp2_with fail
  refine HG.out.mono ?_
  rintro e w3 ⟨rfl, hb3⟩
  have HB3 := Lib.hid (HB2.out.trans (hb3.mono HB2.out.size))
  have HK3 := Lib.hid (HK2.out.below hb3 (by omega))
  have HT3 := Lib.hid (HT.out.below HB3.out)
  have hz3 := hb3.size
  clear hb3 HG k0 k1 k2
  cases hg : greatB t with
  | true =>
    go_wp2_with fail
    go_ret
    exact ⟨rfl, HB3.out⟩
  | false =>
    clear hg
    obtain ⟨k0, k1, k2⟩ := tx_cells HK3.out
    have HS1 := Lib.hid (same7_self t A A' A A' c c' c c' _ _ w3 HT3.out HT3.out HB3.out.size HB3.out.size)
    unfold txV at HS1
    go_wp2_with fail
    refine HS1.out.mono ?_
    rintro e w3a ⟨rfl, hb3a⟩
    have HB3a := Lib.hid (HB3.out.trans (hb3a.mono HB3.out.size))
    have HK3a := Lib.hid (HK3.out.below hb3a (by omega))
    have HT3a := Lib.hid (HT.out.below HB3a.out)
    have hz3a := hb3a.size
    clear hb3a HS1 k0 k1 k2
    obtain ⟨k0, k1, k2⟩ := tx_cells HK3a.out
    by_cases hf : Txs.form t = true
    · have HP := Lib.hid (put_yes t A A' c c' _ w3a HT3a.out HB3a.out.size hf)
      unfold txV at HP
      have hlen := Txs.bytes_len HT.out.ok
      have hsm := Txs.bytes_small HT.out.ok hf
      have HOK := Lib.hid HT.out.ok
      have HF := Lib.hid hf
      obtain ⟨p, hp⟩ : ∃ p, p = Txs.bytes t := ⟨_, rfl⟩
      obtain ⟨n, hn⟩ : ∃ n, n = p.length := ⟨_, rfl⟩
      rw [← hp] at hlen hsm HP
      rw [← hn] at hlen hsm
      have hn6 : 6 ≤ n := by omega
      have HPE := Lib.hid hp
      have HN := Lib.hid hn
      clear hf hlen hp hn
      go_wp2_with fail
      refine HP.out.mono ?_
      rintro e w4 ⟨v4, rfl, ho4, hb4⟩
      unfold OwnB at ho4
      rw [← HN.out] at ho4
      obtain ⟨g, c4, rfl, hg4, hg4'⟩ := ho4.form (by omega)
      obtain ⟨hc4, hm4⟩ : n ≤ c4 ∧ c4 ≤ maxLen := by
        obtain ⟨A5, c5, e5, h5, h6, _⟩ := own_form ho4
        injection e5 with _ _ e5
        subst e5
        exact ⟨h5, h6⟩
      have HO4 := Lib.hid ho4
      have HB4 := Lib.hid (HB3a.out.trans (hb4.mono HB3a.out.size))
      have HK4 := Lib.hid (HK3a.out.below hb4 (by omega))
      have hgw : w.heap.size < g := by omega
      obtain ⟨i, hi⟩ : ∃ i : Nat, z / 8 % (n : Int) = (i : Int) := ⟨(z / 8 % (n : Int)).toNat, by rw [Int.toNat_of_nonneg (Int.emod_nonneg _ (by omega))]⟩
      have hil : i < n := by have := Int.emod_lt_of_pos (z / 8) (show (0 : Int) < (n : Int) by omega); omega
      obtain ⟨m, hmz⟩ : ∃ m : Nat, z % 8 = (m : Int) := ⟨(z % 8).toNat, by omega⟩
      have hm8 : m < 8 := by omega
      obtain ⟨x, hx⟩ : ∃ x, p[i]? = some x := ⟨p[i]'(by rw [← HN.out]; exact hil), List.getElem?_eq_getElem _⟩
      obtain ⟨ci, fi⟩ := own_cell ho4 HN.out.symm hx
      have hn0 : (n : Int) ≠ 0 := by omega
      have hi2 : (wrap64 (IntKind.u16.wrap (z.tdiv 8))).tmod (n : Int) = (i : Int) := by
        rw [Int.tdiv_eq_ediv_of_nonneg hz0, IntWalk.u16_in _ (by omega), IntWalk.wrap64_in _ (by omega), IntWalk.rem_in _ _ (by omega), hi]
      have hmz2 : IntKind.u16.wrap (z.tmod 8) = (m : Int) := by rw [IntWalk.rem_in _ _ hz0, IntWalk.u16_in _ (by omega), hmz]
      have hmz3 : z.tmod 8 = (m : Int) := by rw [IntWalk.rem_in _ _ hz0, hmz]
      have hil' : (i : Int) < (n : Int) := by omega
      clear ho4 hb4 HP k0 k1 k2
      go_upto_region 10 with (fail)
      clear hi
      obtain ⟨y, hy, hyx⟩ := tturn_bit x m hm8
      have HO5 := Lib.hid (own_set HO4.out HN.out.symm i y)
      have HX := Lib.hid hx
      have HYX := Lib.hid hyx
      clear hx hyx
      go_wp2_with fail
      obtain ⟨w5, hw5⟩ : ∃ w5, w5 = w4.setCell ⟨g, i, none⟩ (.int .u8 (y.toNat : Int)) := ⟨_, rfl⟩
      have HB5 := Lib.hid (show Below w.heap.size w w5 by rw [hw5]; exact HB4.out.setCell (p := ⟨g, i, none⟩) (Nat.le_of_lt hgw) (.int .u8 (y.toNat : Int)))
      have HK5 := Lib.hid (show Bk w5 w.heap.size 28 #[.int .u32 (t.version : Int), .slice A t.ins.length c, .slice A' t.outs.length c'] by rw [hw5]; exact HK4.out.far (by show w.heap.size ≠ g; omega) _)
      rw [← hw5] at HO5 ⊢
      clear hw5 hy ci fi hi2
      obtain ⟨A6, c6, e6, _, _, hat6, _⟩ := HO5.out.at_
      injection e6 with e61 e62 e63
      subst e61; subst e63
      have hsl : (p.set i y).length = n := by rw [List.length_set, HN.out]
      have HGE := Lib.hid (get_any (some ⟨g, 0, none⟩) n c4 _ (p.set i y) w5 hsl hc4 hm4 (by omega) hat6 (Nat.le_refl _))
      have HOT : Hid ((Txs.get (p.set i y)).2.2 = 0 → (Txs.get (p.set i y)).1 ≠ t) := Lib.hid (by
        have e1 : (p.set i y).length = (Txs.bytes t).length := by rw [List.length_set, HPE.out]
        have e2 : p.set i y ≠ Txs.bytes t := by rw [← HPE.out]; exact tset_ne HX.out HYX.out
        exact Txs.get_other HOK.out HF.out e1 e2)
      generalize Txs.get (p.set i y) = r at *
      obtain ⟨u, mm, er⟩ := r
      simp only at HGE HOT
      clear hat6 hsl hm4 hc4
      refine HGE.out.mono ?_
      rintro e w7 ⟨A7, c7, A7', c7', rfl, hn7, hb7⟩
      have HN7 := Lib.hid hn7.at_
      have HB7 := Lib.hid (HB5.out.trans (hb7.mono HB5.out.size))
      have HK7 := Lib.hid (HK5.out.below hb7 HK5.out.lt)
      unfold txV
      clear hb7 hn7 HGE
      simp only
      go_upto_region 12 with (fail)
      obtain ⟨w8, hw8, hb8, hz8, hk8⟩ := tx_box w7 u A7 A7' c7 c7'
      rw [← hw8]
      have HB8 := Lib.hid (HB7.out.trans (hb8.mono HB7.out.size))
      have HK8 := Lib.hid hk8
      have HKT8 := Lib.hid (HK7.out.below hb8 HK7.out.lt)
      have HT8 := Lib.hid ((HN7.out.below hb8).mono hb8.size)
      have HT0 := Lib.hid ((HT.out.below HB8.out).mono HB8.out.size)
      clear hw8 hb8 hz8 hk8
      by_cases he : er = 0
      · have hne := HOT.out he
        subst he
        obtain ⟨k0, k1, k2⟩ := tx_cells HKT8.out
        obtain ⟨q0, q1, q2⟩ := tx_cell2 HK8.out
        have HS1 := same7_any t u A A' A7 A7' c c' c7 c7' _ _ w8 HT0.out HT8.out (Nat.le_refl _) (Nat.le_refl _)
        rw [decide_eq_false (fun e => hne e.symm)] at HS1
        have HS1 := Lib.hid HS1
        have HNE := Lib.hid hne
        unfold txV at HS1
        clear hne
        go_wp2_with fail
        refine HS1.out.mono ?_
        rintro e w9 ⟨rfl, hb9⟩
        have HB9 := Lib.hid (HB8.out.trans (hb9.mono HB8.out.size))
        have HKT9 := Lib.hid (HKT8.out.below hb9 HKT8.out.lt)
        have HK9 := Lib.hid (HK8.out.below hb9 HK8.out.lt)
        have HS2 := same7_any u t A7 A7' A A' c7 c7' c c' _ _ w9 (HT8.out.below hb9) (HT0.out.below hb9) hb9.size hb9.size
        rw [decide_eq_false HNE.out] at HS2
        have HS2 := Lib.hid HS2
        unfold txV at HS2
        clear k0 k1 k2 q0 q1 q2 hb9 HS1
        obtain ⟨k0, k1, k2⟩ := tx_cells HKT9.out
        obtain ⟨q0, q1, q2⟩ := tx_cell2 HK9.out
        go_wp2_with fail
        refine HS2.out.mono ?_
        rintro e w10 ⟨rfl, hb10⟩
        have HB10 := Lib.hid (HB9.out.trans (hb10.mono HB9.out.size))
        clear hb10
        go_wp2_with fail
        go_ret
        exact ⟨rfl, HB10.out⟩
      · have he' : (er != 0) = true := by rw [bne_iff_ne]; exact he
        clear he
        go_wp2_with fail
        go_ret
        exact ⟨rfl, HB8.out⟩
    · have hf' : Txs.form t = false := by simpa using hf
      have HP := Lib.hid (put_no t A A' c c' _ w3a HT3a.out HB3a.out.size hf')
      unfold txV at HP
      clear hf hf'
      go_wp2_with fail
      refine HP.out.mono ?_
      rintro e w4 ⟨rfl, hb4⟩
      have HB4 := Lib.hid (HB3a.out.trans (hb4.mono HB3a.out.size))
      clear hb4 HP
      go_wp2_with fail
      go_ret
      exact ⟨rfl, HB4.out⟩
end Go.Proofs.Ytmekgidfdlckoaa
