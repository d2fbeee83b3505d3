/- What goes on the stem lane. -/
import Derived.Test.YtanjlgkbjcienaaMsgAlive
namespace Go.Proofs.Ytanjlgkbjcienaa.M8
open Go.RowKit Go.Deep T7
set_option linter.unusedVariables false
set_option linter.unusedSimpArgs false
set_option maxRecDepth 100000
attribute [local go_sem ↓] Go.wp_at_zero Go.wp_at_succ

theorem lane_any (k : Int) (w : World) : Calls Try.prog 17 #[.int .i64 k] w fun e w' => e = .returned (.int .i64 (if k = 9 then 1 else 0)) ∧ w = w' := by
  by_cases h : k = 9
  · have h' : (k == 9) = true := by rw [h]; rfl
    rw [if_pos h]
    clear h
    go_enter Try.func17, Try.ntmps17
    go_wp2_with fail
    go_ret
    exact ⟨rfl, rfl⟩
  · have h' : (k == 9) = false := by rw [beq_eq_false_iff_ne]; exact h
    rw [if_neg h]
    clear h
    go_enter Try.func17, Try.ntmps17
    go_wp2_with fail
    go_ret
    exact ⟨rfl, rfl⟩
theorem named_yes (s : ByteArray) (h1 : 1 ≤ s.size) (h2 : s.size ≤ 12) (ha : ∀ k (h : k < s.size), 97 ≤ s[k].toNat ∧ s[k].toNat ≤ 122) (w : World) : Calls Try.prog 18 #[.string s] w fun e w' => e = .returned (.bool true) ∧ w = w' := by
  have HA := Lib.hid ha
  have i1 : (1 : Int) ≤ (s.size : Int) := by omega
  have i2 : (s.size : Int) ≤ 12 := by omega
  clear ha
  go_enter Try.func18, Try.ntmps18
  go_wp2_with fail
  go_loop [6] (fun i => ∃ k : Nat, k ≤ s.size ∧ i = .int .i64 (k : Int)) (fun i => s.size - (intOf i).toNat)
  case atStart => exact ⟨0, Nat.zero_le _, rfl⟩
  case round =>
    obtain ⟨k, hk, rfl⟩ := hrel
    by_cases hlt : k < s.size
    · have hlt' : (k : Int) < (s.size : Int) := by omega
      obtain ⟨g1, g2⟩ := HA.out k hlt
      have g1' : ¬ (s[k].toNat : Int) < 97 := by omega
      have g2' : ¬ (122 : Int) < (s[k].toNat : Int) := by omega
      go_wp2_with fail
      go_round
      case rel => exact ⟨k + 1, by omega, by go_num⟩
      case measure => simp [intOf]; omega
    · go_wp2_with fail
      go_ret
      exact ⟨rfl, rfl⟩
theorem tx_box8 (w : World) (t : Txs.Tx) (A A' : Option Addr) (c c' : Nat) : ∃ w1, w1 = w.alloc (.cells #[.int .u32 (t.version : Int), .slice A t.ins.length c, .slice A' t.outs.length c'] 30) ∧
    Below w.heap.size w w1 ∧ w1.heap.size = w.heap.size + 1 ∧ Bk w1 w.heap.size 30 #[.int .u32 (t.version : Int), .slice A t.ins.length c, .slice A' t.outs.length c'] :=
  ⟨_, rfl, Joins.below_alloc1 _ _, by simp, Bk.new _ _ _⟩
theorem tx_cells8 {w : World} {g : Nat} {t : Txs.Tx} {A A' : Option Addr} {c c' : Nat} (h : Bk w g 30 #[.int .u32 (t.version : Int), .slice A t.ins.length c, .slice A' t.outs.length c']) :
    w.cell? ⟨g, 0, none⟩ = some (.int .u32 (t.version : Int)) ∧ w.cell? ⟨g, 1, none⟩ = some (.slice A t.ins.length c) ∧ w.cell? ⟨g, 2, none⟩ = some (.slice A' t.outs.length c') :=
  ⟨(h.cell 0).trans rfl, (h.cell 1).trans rfl, (h.cell 2).trans rfl⟩
theorem tx_msg {w : World} {B : Nat} {t : Txs.Tx} {A A' : Option Addr} {c c' : Nat} (k : Int) (hk : -9223372036854775808 ≤ k) (hk' : k ≤ 9223372036854775807) (h : TxAt w B t A c A' c') : MsgAt w B ⟨k, 0, 0, [], t⟩ none 0 A c A' c' :=
  ⟨hk, hk', by show (0 : Nat) < _; omega, by show (0 : Nat) < _; omega, Nat.le_refl _, by simp [maxLen], fun i hi => by simp at hi, h⟩
theorem put_stem (k : Int) (t : Txs.Tx) (hk : k = 8 ∨ k = 9) : Msgs.put ⟨k, 0, 0, [], t⟩ = if Txs.form t = true then ((Msgs.shp k).cmd, Txs.bytes t, 0) else ([], [], 5) := by
  have h0 : Msgs.errOf ⟨k, 0, 0, [], t⟩ = 0 := by
    refine Msgs.fits_iff.2 ⟨?_, fun _ => rfl, fun _ => rfl, fun _ => rfl, fun h => ?_, Nat.zero_le _, fun h => ?_, Nat.zero_le _⟩
    · rcases hk with rfl | rfl <;> rfl
    · rcases hk with rfl | rfl <;> exact absurd rfl h
    · rcases hk with rfl | rfl <;> cases h
  have ht : (Msgs.shp k).tx = true := by rcases hk with rfl | rfl <;> rfl
  unfold Msgs.put
  rw [if_neg (by rw [h0]; simp), if_pos (show (Msgs.shp k).tx = true from ht)]
def tmsg (k v : Int) (A : Option Addr) (n c : Nat) (A' : Option Addr) (n' c' : Nat) : Array Value := #[.int .i64 k, .int .u64 0, .int .u32 0, .slice none 0 0, .int .u32 v, .slice A n c, .slice A' n' c']
theorem built0 (v : Int) (A A' : Option Addr) (n c n' c' : Nat) : Try.prog.built 32 [(4, .agg #[.int .u32 v, .slice A n c, .slice A' n' c'])] = some (tmsg 0 v A n c A' n' c') := by kernel_rfl
theorem built89 (k v : Int) (A A' : Option Addr) (n c n' c' : Nat) : Try.prog.built 32 [(0, .int .i64 k), (4, .agg #[.int .u32 v, .slice A n c, .slice A' n' c'])] = some (tmsg k v A n c A' n' c') := by kernel_rfl
/-- what Put gives for both kinds -/
theorem put_kind (k : Int) (hk : k = 8 ∨ k = 9) (t : Txs.Tx) (A A' : Option Addr) (c c' B : Nat) (w : World) (h : TxAt w B t A c A' c') (hB : B ≤ w.heap.size) :
    Calls Try.prog 14 #[.agg (tmsg k t.version A t.ins.length c A' t.outs.length c')] w fun e w' => PutOut w w' (if Txs.form t = true then ((Msgs.shp k).cmd, Txs.bytes t, 0) else ([], [], 5)) e := by
  have := mput_any ⟨k, 0, 0, [], t⟩ none A A' 0 c c' B w (tx_msg k (by omega) (by omega) h) hB
  rw [put_stem k t hk] at this
  exact this
set_option maxHeartbeats 8000000 in
theorem msgLanes_walk (w : World) (t : Txs.Tx) (A : Option Addr) (c : Nat) (A' : Option Addr) (c' : Nat) (h : TxAt w w.heap.size t A c A' c') (k : Int) (hkw : (Lit.int .i64 k).wf = true) :
    Calls Try.prog 8 #[txV t A c A' c', .int .i64 k] w fun e w' => e = .returned (.bool true) ∧ Below w.heap.size w w' := by
  obtain ⟨w1, hw1, hb1, hz1, hk1⟩ := tx_box8 w t A A' c c'
  have HB1 := Lib.hid hb1
  have HZ1 := Lib.hid hz1
  have HK1 := Lib.hid hk1
  have HT := Lib.hid h
  have HGR := Lib.hid (fun W (hb : Below w.heap.size w W) => great_any ⟨0, 0, 0, [], t⟩ none A A' 0 c c' _ W (tx_msg 0 (by decide) (by decide) (h.below hb)) hb.size)
  have HP8 := Lib.hid (fun W (hb : Below w.heap.size w W) => put_kind 8 (.inl rfl) t A A' c c' _ W (h.below hb) hb.size)
  have HP9 := Lib.hid (fun W (hb : Below w.heap.size w W) => put_kind 9 (.inr rfl) t A A' c c' _ W (h.below hb) hb.size)
  have HLN := Lib.hid (fun W => lane_any k W)
  have hsm : Txs.form t = true → (Txs.bytes t).length ≤ 2000 := fun hf => Txs.bytes_small h.ok hf
  have HSM := Lib.hid hsm
  rw [show msgV ⟨0, 0, 0, [], t⟩ none 0 A c A' c' = .agg (tmsg 0 t.version A t.ins.length c A' t.outs.length c') from rfl] at HGR
  unfold txV
  clear hb1 hz1 hk1 h hkw hsm
  go_enter Try.func8, Try.ntmps8
  go_wp2_with fail
  rw [← hw1]
  clear hw1
  refine (alive_any w1).mono ?_
  rintro e w2 ⟨rfl, hb2⟩
  have HB2 := Lib.hid (HB1.out.trans (hb2.mono HB1.out.size))
  have HK2 := Lib.hid (HK1.out.below hb2 HK1.out.lt)
  have hz2 : w.heap.size + 1 ≤ w2.heap.size := by rw [← HZ1.out]; exact hb2.size
  obtain ⟨k0, k1, k2⟩ := tx_cells8 HK2.out
  clear hb2
  go_wp2_with (refine wpList_buildTo rfl 32 _ rfl _ rfl _ (built0 _ _ _ _ _ _ _) ?_)
  refine (HGR.out w2 HB2.out).mono ?_
  rintro e w3 ⟨⟨v3, rfl⟩, hb3⟩
  have HB3 := Lib.hid (HB2.out.trans (hb3.mono HB2.out.size))
  have HK3 := Lib.hid (HK2.out.below hb3 (by omega))
  have hz3 : w.heap.size + 1 ≤ w3.heap.size := by have := hb3.size; omega
  clear hb3 HGR k0 k1 k2
  cases v3 with
  | true =>
    go_wp2_with fail
    go_ret
    exact ⟨rfl, HB3.out⟩
  | false =>
    obtain ⟨k0, k1, k2⟩ := tx_cells8 HK3.out
    have h89 : ((⟨(Msgs.shp 8).cmd.toArray⟩ : ByteArray)) = ⟨#[116, 120]⟩ := rfl
    have h99 : ((⟨(Msgs.shp 9).cmd.toArray⟩ : ByteArray)) = ⟨#[115, 116, 101, 109, 116, 120]⟩ := rfl
    have HN8 := Lib.hid (fun W => named_yes ⟨#[116, 120]⟩ (by decide) (by decide) (by decide) W)
    have HN9 := Lib.hid (fun W => named_yes ⟨#[115, 116, 101, 109, 116, 120]⟩ (by decide) (by decide) (by decide) W)
    have HE8 := Lib.hid h89
    have HE9 := Lib.hid h99
    clear h89 h99
    by_cases h9 : k = 9
    case' pos =>
      have e9 : (k == 9) = true := by rw [h9]; rfl
      rw [if_pos h9] at HLN
    case' neg =>
      have e9 : (k == 9) = false := by rw [beq_eq_false_iff_ne]; exact h9
      rw [if_neg h9] at HLN
    all_goals
      clear h9
      go_upto_region 7 with (go_at_call 17; refine (HLN.out _).mono ?_; rintro e w' ⟨rfl, rfl⟩)
      unfold tmsg at HP8 HP9
      cases hf : Txs.form t
      · rw [hf] at HP8 HP9
        rw [if_neg (by simp)] at HP8 HP9
        clear hf
        go_wp2_with fail
        refine (HP8.out w3 HB3.out).mono ?_
        rintro e w4 ⟨v4, rfl, ho4, hb4⟩
        obtain ⟨A4, c4, rfl, hc4, hm4, hat4, _⟩ := ho4.at_
        have HB4 := Lib.hid (HB3.out.trans (hb4.mono HB3.out.size))
        have HK4 := Lib.hid (HK3.out.below hb4 (by omega))
        have hz4 : w.heap.size + 1 ≤ w4.heap.size := by have := hb4.size; omega
        have HA4 := Lib.hid hat4
        clear k0 k1 k2 hb4 ho4 hat4 HP8
        obtain ⟨k0, k1, k2⟩ := tx_cells8 HK4.out
        go_wp2_with fail
        refine (HP9.out w4 HB4.out).mono ?_
        rintro e w5 ⟨v5, rfl, ho5, hb5⟩
        obtain ⟨A5, c5, rfl, hc5, hm5, hat5, _⟩ := ho5.at_
        have HB5 := Lib.hid (HB4.out.trans (hb5.mono HB4.out.size))
        have HS := Lib.hid (same_yes A4 A5 _ _ c4 c5 [] w5 _ _ rfl rfl (by decide) (At.below HA4.out hb5) hat5)
        clear k0 k1 k2 hb5 ho5 hat5 HP9
        go_wp2_with fail
        refine HS.out.mono ?_
        rintro e w6 ⟨rfl, hb6⟩
        have HB6 := Lib.hid (HB5.out.trans (hb6.mono HB5.out.size))
        clear hb6
        go_wp2_with fail
        go_ret
        exact ⟨rfl, HB6.out⟩
      · rw [hf] at HP8 HP9
        rw [if_pos rfl] at HP8 HP9
        have HLE := Lib.hid (HSM.out hf)
        clear hf
        obtain ⟨by_, hby⟩ : ∃ by_, by_ = Txs.bytes t := ⟨_, rfl⟩
        rw [← hby] at HP8 HP9 HLE
        clear hby
        go_wp2_with fail
        refine (HP8.out w3 HB3.out).mono ?_
        rintro e w4 ⟨v4, rfl, ho4, hb4⟩
        simp only at ho4 ⊢
        rw [HE8.out]
        obtain ⟨A4, c4, rfl, hc4, hm4, hat4, _⟩ := ho4.at_
        have HB4 := Lib.hid (HB3.out.trans (hb4.mono HB3.out.size))
        have HK4 := Lib.hid (HK3.out.below hb4 (by omega))
        have hz4 : w.heap.size + 1 ≤ w4.heap.size := by have := hb4.size; omega
        have HA4 := Lib.hid hat4
        clear k0 k1 k2 hb4 ho4 hat4 HP8
        obtain ⟨k0, k1, k2⟩ := tx_cells8 HK4.out
        go_wp2_with fail
        refine (HP9.out w4 HB4.out).mono ?_
        rintro e w5 ⟨v5, rfl, ho5, hb5⟩
        simp only at ho5 ⊢
        rw [HE9.out]
        obtain ⟨A5, c5, rfl, hc5, hm5, hat5, _⟩ := ho5.at_
        have HB5 := Lib.hid (HB4.out.trans (hb5.mono HB4.out.size))
        have HS := Lib.hid (same_yes A4 A5 _ _ c4 c5 by_ w5 _ _ rfl rfl (by have := HLE.out; omega) (At.below HA4.out hb5) hat5)
        clear k0 k1 k2 hb5 ho5 hat5 HP9
        go_wp2_with fail
        refine HS.out.mono ?_
        rintro e w6 ⟨rfl, hb6⟩
        have HB6 := Lib.hid (HB5.out.trans (hb6.mono HB5.out.size))
        clear hb6
        go_wp2_with (go_at_call 18; first
          | ((with_reducible refine (HN8.out _).mono ?_); rintro e w' ⟨rfl, rfl⟩)
          | ((with_reducible refine (HN9.out _).mono ?_); rintro e w' ⟨rfl, rfl⟩))
        go_ret
        exact ⟨rfl, HB6.out⟩
end Go.Proofs.Ytanjlgkbjcienaa.M8
