/- A bit of a frame turned. -/
import Derived.Test.YtaiblalebeldgaaDoorFramePuts
import Derived.Test.YtaiblalebeldgaaDoorFrameLong
namespace Go.Proofs.YtaiblalebeldgaaDoor.Frm
theorem magic_len : magic.length = 4 := rfl
theorem put_magic (cmd body : List UInt8) : ∃ R, put cmd body = magic ++ R ∧ R.length = 4 + 4 + cmd.length + (12 - cmd.length) + body.length := by
  refine ⟨cmd ++ (List.replicate (12 - cmd.length) 0 ++ (Oct.le body.length 4 ++ (Oct.le (Sha.check body).toNat 4 ++ body))), by unfold put; simp only [List.append_assoc], ?_⟩
  simp only [List.length_append, List.length_replicate, Oct.le_length]; omega
theorem set_ne {l : List UInt8} {i : Nat} {x y : UInt8} (hi : l[i]? = some x) (hy : y ≠ x) : l.set i y ≠ l := by
  intro e
  have hl : i < l.length := (List.getElem?_eq_some_iff.1 hi).1
  have h : (l.set i y)[i]? = some y := by rw [List.getElem?_set_self hl]
  rw [e, hi] at h
  exact hy (Option.some.inj h).symm
/-- a byte of the magic turned -/
theorem turned_magic (cmd body : List UInt8) {i : Nat} {x y : UInt8} (h12 : cmd.length ≤ 12) (hi : i < 4) (hx : (put cmd body)[i]? = some x) (hy : y ≠ x) : get ((put cmd body).set i y) = ([], [], 0, 6) := by
  obtain ⟨R, hR, hRl⟩ := put_magic cmd body
  rw [hR] at hx ⊢
  rw [List.getElem?_append_left (by rw [magic_len]; exact hi)] at hx
  rw [List.set_append_left _ _ (by rw [magic_len]; exact hi)]
  have hne := set_ne hx hy
  have hml : (magic.set i y).length = 4 := by rw [List.length_set]; rfl
  have ht : (magic.set i y ++ R).take 24 = magic.set i y ++ R.take 20 := by rw [List.take_append, List.take_of_length_le (by omega), hml]
  have hh : head ((magic.set i y ++ R).take 24) = (⟨[], 0, 0⟩, 6) := by
    rw [ht]
    unfold head
    rw [if_neg (by rw [List.length_append, hml, List.length_take]; simp; omega), List.take_left' hml, if_pos hne]
  unfold get
  rw [if_neg (by rw [List.length_append, hml]; omega), hh]
  rfl
theorem head_sum {cmd : List UInt8} (h : named cmd = true) (n : Nat) (hn : n ≤ 2048) (q : List UInt8) (hq : q.length = 4) :
    head (magic ++ cmd ++ List.replicate (12 - cmd.length) 0 ++ Oct.le n 4 ++ q) = (⟨cmd, n, Oct.val q⟩, 0) := by
  have h1 : Oct.le (Oct.val q) 4 = q := by have := Oct.le_val q; rwa [hq] at this
  have hv : Oct.val q < 4294967296 := by have := Oct.val_lt q; rw [hq] at this; simpa using this
  have h2 := head_of h n (Oct.val q) (by omega) hv
  rw [if_neg (by omega)] at h2
  unfold headOf at h2
  rw [h1] at h2
  exact h2
/-- a byte of the sum turned -/
theorem turned_sum {cmd body : List UInt8} (h : named cmd = true) (hb : body.length ≤ 2048) {i : Nat} {x y : UInt8} (hi : 20 ≤ i) (hi2 : i < 24) (hx : (put cmd body)[i]? = some x) (hy : y ≠ x) : get ((put cmd body).set i y) = ([], [], 24 + body.length, 7) := by
  obtain ⟨h0, h12, _⟩ := named_len h
  obtain ⟨P, hP⟩ : ∃ P, P = magic ++ cmd ++ List.replicate (12 - cmd.length) 0 ++ Oct.le body.length 4 := ⟨_, rfl⟩
  have hPl : P.length = 20 := by rw [hP]; simp only [List.length_append, List.length_replicate, Oct.le_length, magic_len]; omega
  obtain ⟨q, hq⟩ : ∃ q, q = Oct.le (Sha.check body).toNat 4 := ⟨_, rfl⟩
  have hql : q.length = 4 := by rw [hq, Oct.le_length]
  have hput : put cmd body = P ++ (q ++ body) := by rw [hP, hq]; unfold put; simp only [List.append_assoc]
  rw [hput] at hx ⊢
  rw [List.getElem?_append_right (by omega), hPl, List.getElem?_append_left (by omega)] at hx
  rw [List.set_append_right _ _ (by omega), hPl, List.set_append_left _ _ (by omega)]
  have hne := set_ne hx hy
  have hsl : (q.set (i - 20) y).length = 4 := by rw [List.length_set, hql]
  have ht : (P ++ (q.set (i - 20) y ++ body)).take 24 = P ++ q.set (i - 20) y := by
    rw [← List.append_assoc, List.take_left' (by rw [List.length_append, hPl, hsl])]
  have hd : (P ++ (q.set (i - 20) y ++ body)).drop 24 = body := by
    rw [← List.append_assoc, List.drop_left' (by rw [List.length_append, hPl, hsl])]
  have hh : head (P ++ q.set (i - 20) y) = (⟨cmd, body.length, Oct.val (q.set (i - 20) y)⟩, 0) := by
    rw [hP]; exact head_sum h body.length hb _ hsl
  have hvne : (Sha.check body).toNat ≠ Oct.val (q.set (i - 20) y) := by
    intro e
    apply hne
    have h1 := Oct.le_val (q.set (i - 20) y)
    rw [hsl, ← e, ← hq] at h1
    exact h1.symm
  unfold get
  rw [if_neg (by simp only [List.length_append, hPl, hsl]; omega), ht, hh, hd]
  simp only [ne_eq, not_true_eq_false, if_false]
  rw [if_neg (by simp only [List.length_append, hPl, hsl]; omega), if_neg h0, List.take_of_length_le (Nat.le_refl _), if_pos hvne]
/-- a byte of the body turned -/
theorem turned_body {cmd body : List UInt8} (h : named cmd = true) (hb : body.length ≤ 2048) {i : Nat} {y : UInt8} (hi : 24 ≤ i) :
    (put cmd body).set i y = headOf cmd body.length (Sha.check body).toNat ++ body.set (i - 24) y ∧
    get ((put cmd body).set i y) = if (Sha.check (body.set (i - 24) y)).toNat ≠ (Sha.check body).toNat then ([], [], 24 + body.length, 7) else (cmd, body.set (i - 24) y, 24 + body.length, 0) := by
  obtain ⟨h0, h12, _⟩ := named_len h
  have hl := headOf_len h12 body.length (Sha.check body).toNat
  have hs := (Sha.check body).toNat_lt
  have hh := head_of h body.length (Sha.check body).toNat (by omega) hs
  rw [if_neg (by omega)] at hh
  have e : (put cmd body).set i y = headOf cmd body.length (Sha.check body).toNat ++ body.set (i - 24) y := by
    rw [put_head, List.set_append_right _ _ (by omega), hl]
  refine ⟨e, ?_⟩
  rw [e]
  unfold get
  rw [if_neg (by rw [List.length_append, hl]; omega), List.take_left' hl, hh, List.drop_left' hl]
  simp only [ne_eq, not_true_eq_false, if_false]
  rw [if_neg (by rw [List.length_append, hl, List.length_set]; omega), if_neg h0, List.take_of_length_le (by rw [List.length_set]; exact Nat.le_refl _)]
end Go.Proofs.YtaiblalebeldgaaDoor.Frm
namespace Go.Proofs.YtaiblalebeldgaaDoor
open Go.RowKit Go.Deep
set_option linter.unusedVariables false
set_option linter.unusedSimpArgs false
set_option maxRecDepth 100000
attribute [local go_sem ↓] Go.wp_at_zero Go.wp_at_succ
theorem bits_u8_xor (a b : Nat) (ha : a < 256) (hb : b < 256) : bits .xor .u8 (a : Int) (b : Int) = ((a ^^^ b : Nat) : Int) := by
  have h : a ^^^ b < 256 := Nat.xor_lt_two_pow (n := 8) ha hb
  have e1 : a % 2 ^ IntKind.u8.bits = a := Nat.mod_eq_of_lt ha
  have e2 : b % 2 ^ IntKind.u8.bits = b := Nat.mod_eq_of_lt hb
  simp only [bits, BitVec.ofInt_natCast, BitVec.toNat_xor, BitVec.toNat_ofNat, e1, e2]
  rw [IntKind.wrap_u8]
  omega
theorem turn_bit (x : UInt8) (m : Nat) (hm : m < 8) : ∃ y : UInt8, bits .xor .u8 (x.toNat : Int) ((2 : Int) ^ m % 256) = (y.toNat : Int) ∧ y ≠ x := by
  have hp : (2 : Int) ^ m % 256 = ((2 ^ m : Nat) : Int) := by
    have : m = 0 ∨ m = 1 ∨ m = 2 ∨ m = 3 ∨ m = 4 ∨ m = 5 ∨ m = 6 ∨ m = 7 := by omega
    rcases this with rfl | rfl | rfl | rfl | rfl | rfl | rfl | rfl <;> rfl
  have hlt : 2 ^ m < 256 := by
    have : 2 ^ m < 2 ^ 8 := Nat.pow_lt_pow_right (by decide) hm
    simpa using this
  have hx := x.toNat_lt
  rw [hp, bits_u8_xor _ _ hx hlt]
  have h8 : x.toNat ^^^ 2 ^ m < 256 := Nat.xor_lt_two_pow (n := 8) hx hlt
  refine ⟨UInt8.ofNat (x.toNat ^^^ 2 ^ m), by rw [UInt8.toNat_ofNat_of_lt' h8], fun e => ?_⟩
  have h1 := congrArg UInt8.toNat e
  rw [UInt8.toNat_ofNat_of_lt' h8] at h1
  have h2 : x.toNat ^^^ (x.toNat ^^^ 2 ^ m) = x.toNat ^^^ x.toNat := by rw [h1]
  rw [← Nat.xor_assoc, Nat.xor_self, Nat.zero_xor] at h2
  exact absurd h2 (Nat.pos_iff_ne_zero.1 (Nat.pow_pos (by decide)))
set_option maxHeartbeats 1000000 in
theorem frameTurned_yes (w : World) (hlay : Laid w) (s : ByteArray) (hs : s.size ≤ 9223372036854775807) (hn : Frm.named s.data.toList = true) (A : Option Addr) (c : Nat) (body : List UInt8) (hl : body.length ≤ 2048) (hc : body.length ≤ c) (hm : c ≤ maxLen) (hat : BytesAt w w.heap.size A body) (z : Int) (hz : (Lit.int .u16 z).wf = true) :
    Calls Tryd.prog 8 #[.string s, .slice A body.length c, .int .u16 z] w fun e w' => e = .returned (.bool true) ∧ Below w.heap.size w w' := by
  have hz := wf_u16 hz
  obtain ⟨hz0, hz1⟩ := hz
  have HA := Lib.hid (frame_alive w hlay)
  have HP := fun W h1 h2 h3 => Lib.hid (put_row s A c w.heap.size body W h1 hs hn hl h2 h3 hc hm)
  have HL := Lib.hid hlay
  have HAT := Lib.hid hat
  have hpl := Frm.put_len hn body
  obtain ⟨i, hi⟩ : ∃ i : Nat, z / 8 % (24 + (body.length : Int)) = (i : Int) := ⟨(z / 8 % (24 + (body.length : Int))).toNat, by rw [Int.toNat_of_nonneg (Int.emod_nonneg _ (by omega))]⟩
  have hil : i < 24 + body.length := by have := Int.emod_lt_of_pos (z / 8) (show (0 : Int) < 24 + (body.length : Int) by omega); omega
  obtain ⟨m, hmz⟩ : ∃ m : Nat, z % 8 = (m : Int) := ⟨(z % 8).toNat, by omega⟩
  have hm8 : m < 8 := by omega
  obtain ⟨p, hp⟩ : ∃ p, p = Frm.put s.data.toList body := ⟨_, rfl⟩
  rw [← hp] at hpl HP
  have HPE := Lib.hid hp
  have HPL := Lib.hid hpl
  have HN := Lib.hid hn
  clear hlay hat hp hpl hn
  go_enter Tryd.func8, Tryd.ntmps8
  go_wp2_with fail
  refine HA.out.mono ?_
  rintro e w1 ⟨rfl, hb1⟩
  have HB1 := Lib.hid hb1
  clear hb1
  go_wp2_with fail
  refine (HP _ (HL.out.below HB1.out) (HAT.out.below HB1.out) HB1.out.size).out.mono ?_
  rintro e w2 ⟨g, rfl, hg, hk2, hb2⟩
  have HB2 := Lib.hid (HB1.out.trans (hb2.mono HB1.out.size))
  have hg0 : w.heap.size ≤ g := Nat.le_trans HB1.out.size hg
  obtain ⟨x, hx⟩ : ∃ x, p[i]? = some x := ⟨p[i]'(by rw [HPL.out]; exact hil), List.getElem?_eq_getElem _⟩
  have ci := bk_byte hk2 i x hx _ rfl
  have fi := hk2.frozen i
  have hp24 : (24 : Int) + (body.length : Int) ≠ 0 := by omega
  have hi2 : (wrap64 (IntKind.u16.wrap (z.tdiv 8))).tmod (24 + (body.length : Int)) = (i : Int) := by
    rw [Int.tdiv_eq_ediv_of_nonneg hz0, IntWalk.u16_in _ (by omega), IntWalk.wrap64_in _ (by omega), IntWalk.rem_in _ _ (by omega), hi]
  have hmz2 : IntKind.u16.wrap (z.tmod 8) = (m : Int) := by rw [IntWalk.rem_in _ _ hz0, IntWalk.u16_in _ (by omega), hmz]
  have hmz3 : z.tmod 8 = (m : Int) := by rw [IntWalk.rem_in _ _ hz0, hmz]
  have hil' : (i : Int) < 24 + (body.length : Int) := by omega
  go_upto_region 7 with (fail)
  clear hi2 hi
  obtain ⟨y, hy, hyx⟩ := turn_bit x m hm8
  have hk3 := hk2.setByte i y
  have HK3 := Lib.hid hk3
  have HX := Lib.hid hx
  have HYX := Lib.hid hyx
  clear hk2 hb2 hk3 hx hyx HP HA
  go_wp2_with fail
  have HB3 := Lib.hid (HB2.out.setCell (p := ⟨g, i, none⟩) hg0 (.int .u8 (y.toNat : Int)))
  obtain ⟨w3, hw3⟩ : ∃ w3, w3 = w2.setCell ⟨g, i, none⟩ (.int .u8 (y.toNat : Int)) := ⟨_, rfl⟩
  have HK := Lib.hid (show Bk w3 g 5 (bytesArr (p.set i y)) by rw [hw3]; exact HK3.out)
  rw [← hw3] at HB3 ⊢
  clear hw3 HK3 hy ci fi
  have hsl : (p.set i y).length = 24 + body.length := by rw [List.length_set, HPL.out]
  have hat3 := HK.out.bytesAt HK.out.lt
  have hG := get_any (some ⟨g, 0, none⟩) (24 + body.length) _ (24 + body.length) (p.set i y) w3 (HL.out.below HB3.out) hsl (Nat.le_refl _) (by unfold maxLen; omega) (by omega) hat3 (Nat.le_refl _)
  have hnl : (((24 + body.length : Nat) : Int)) = 24 + (body.length : Int) := by omega
  by_cases h4 : i < 4
  · have h4' : (i : Int) < 4 := by omega
    rw [HPE.out, Frm.turned_magic _ body (named_len HN.out).2.1 h4 (by rw [← HPE.out]; exact HX.out) HYX.out] at hG
    have HG := Lib.hid hG
    clear hG hat3
    refine HG.out.mono ?_
    rintro e w4 ⟨v4, rfl, ho4, hb4⟩
    have HB4 := Lib.hid (HB3.out.trans (hb4.mono HB3.out.size))
    obtain ⟨A4, c4, rfl, _, _, _, _⟩ := own_form ho4
    clear ho4 hb4
    go_wp2_with fail
    go_ret
    exact ⟨rfl, HB4.out⟩
  · have h4' : ¬ (i : Int) < 4 := by omega
    by_cases h20 : 20 ≤ i
    · have h20' : (20 : Int) ≤ (i : Int) := by omega
      by_cases h24 : i < 24
      · have h24' : (i : Int) < 24 := by omega
        rw [HPE.out, Frm.turned_sum HN.out hl h20 h24 (by rw [← HPE.out]; exact HX.out) HYX.out] at hG
        have HG := Lib.hid hG
        clear hG hat3
        refine HG.out.mono ?_
        rintro e w4 ⟨v4, rfl, ho4, hb4⟩
        have HB4 := Lib.hid (HB3.out.trans (hb4.mono HB3.out.size))
        obtain ⟨A4, c4, rfl, _, _, _, _⟩ := own_form ho4
        clear ho4 hb4
        go_wp2_with fail
        go_ret
        exact ⟨rfl, HB4.out⟩
      · have h24' : ¬ (i : Int) < 24 := by omega
        have h24a : (24 : Int) ≤ (i : Int) := by omega
        obtain ⟨t1, t2⟩ := Frm.turned_body (y := y) HN.out hl (show 24 ≤ i by omega)
        rw [HPE.out, t2] at hG
        have h12 := (named_len HN.out).2.1
        have hdr : (p.set i y).drop 24 = body.set (i - 24) y := by rw [HPE.out, t1, List.drop_left' (Frm.headOf_len h12 _ _)]
        have HDR := Lib.hid hdr
        by_cases hck : (Sha.check (body.set (i - 24) y)).toNat ≠ (Sha.check body).toNat
        · rw [if_pos hck] at hG
          have HG := Lib.hid hG
          clear hG hat3 t1 t2 hdr hck
          refine HG.out.mono ?_
          rintro e w4 ⟨v4, rfl, ho4, hb4⟩
          have HB4 := Lib.hid (HB3.out.trans (hb4.mono HB3.out.size))
          obtain ⟨A4, c4, rfl, _, _, _, _⟩ := own_form ho4
          clear ho4 hb4
          go_wp2_with fail
          go_ret
          exact ⟨rfl, HB4.out⟩
        · rw [if_neg hck] at hG
          have HG := Lib.hid hG
          have hckE : (Sha.check (body.set (i - 24) y)).toNat = (Sha.check body).toNat := by simpa using hck
          have HCKE := Lib.hid hckE
          clear hG hat3 t1 t2 hdr hck hckE
          refine HG.out.mono ?_
          rintro e w4 ⟨v4, rfl, ho4, hb4⟩
          have HB4 := Lib.hid (HB3.out.trans (hb4.mono HB3.out.size))
          obtain ⟨A4, c4, rfl, _, _, _, _⟩ := own_form ho4
          have hk4 := HK.out.below hb4 HK.out.lt
          have hat4 : BytesAt w4 w4.heap.size (some ⟨g, 0 + 24, none⟩) (body.set (i - 24) y) := by
            have h := (hk4.bytesAt hk4.lt).drop 24
            rwa [HDR.out] at h
          rw [Nat.zero_add] at hat4
          have HC1 := Lib.hid (check_ref (some ⟨g, 24, none⟩) body.length body.length _ (body.set (i - 24) y) w4 (by rw [List.length_set]) (Nat.le_refl _) (by unfold maxLen; omega) (by omega) hat4 (Nat.le_refl _))
          rw [HCKE.out] at HC1
          have HC2 := Lib.hid (fun W h1 h2 => check_ref A body.length c w.heap.size body W rfl hc hm (by omega) h1 h2)
          have hbl0 : ¬ (body.length = 0) := by omega
          clear ho4 hb4 hk4 hat4
          go_wp2_with fail
          refine HC1.out.mono ?_
          rintro e w5 ⟨rfl, hb5⟩
          have HB5 := Lib.hid (HB4.out.trans (hb5.mono HB4.out.size))
          clear hb5
          go_wp2_with fail
          refine (HC2.out _ (HAT.out.below HB5.out) HB5.out.size).mono ?_
          rintro e w6 ⟨rfl, hb6⟩
          have HB6 := Lib.hid (HB5.out.trans (hb6.mono HB5.out.size))
          clear hb6
          go_wp2_with fail
          go_ret
          exact ⟨rfl, HB6.out⟩
    · have h20' : ¬ (20 : Int) ≤ (i : Int) := by omega
      have h24' : ¬ (24 : Int) ≤ (i : Int) := by omega
      have HG := Lib.hid hG
      clear hG hat3
      refine HG.out.mono ?_
      rintro e w4 ⟨v4, rfl, ho4, hb4⟩
      have HB4 := Lib.hid (HB3.out.trans (hb4.mono HB3.out.size))
      obtain ⟨A4, c4, rfl, _, _, _, _⟩ := own_form ho4
      clear ho4 hb4
      go_wp2_with fail
      go_ret
      exact ⟨rfl, HB4.out⟩
theorem frameTurned_no (w : World) (hlay : Laid w) (s : ByteArray) (A : Option Addr) (n c : Nat) (z : Int) (x : Int) (hx : (x != 0) = true)
    (hp : ∀ W : World, Hid (Calls Tryd.prog 12 #[.string s, .slice A n c] W fun e w' => e = .returned (.tuple #[.slice none 0 0, .int .i64 x]) ∧ Below W.heap.size W w')) :
    Calls Tryd.prog 8 #[.string s, .slice A n c, .int .u16 z] w fun e w' => e = .returned (.bool true) ∧ Below w.heap.size w w' := by
  have HA := Lib.hid (frame_alive w hlay)
  clear hlay
  go_enter Tryd.func8, Tryd.ntmps8
  go_wp2_with fail
  refine HA.out.mono ?_
  rintro e w1 ⟨rfl, hb1⟩
  have HB1 := Lib.hid hb1
  clear hb1
  go_wp2_with fail
  refine (hp _).out.mono ?_
  rintro e w2 ⟨rfl, hb2⟩
  have HB2 := Lib.hid (HB1.out.trans (hb2.mono HB1.out.size))
  clear hb2
  go_wp2_with fail
  go_ret
  exact ⟨rfl, HB2.out⟩
theorem frameTurned_walk (w : World) (hlay : Laid w) (s : ByteArray) (hs : s.size ≤ 9223372036854775807) (A : Option Addr) (n c : Nat) (body : List UInt8) (hl : body.length = n) (hc : n ≤ c) (hm : c ≤ maxLen) (hat : BytesAt w w.heap.size A body) (z : Int) (hz : (Lit.int .u16 z).wf = true) :
    Calls Tryd.prog 8 #[.string s, .slice A n c, .int .u16 z] w fun e w' => e = .returned (.bool true) ∧ Below w.heap.size w w' := by
  subst hl
  cases hn : Frm.named s.data.toList with
  | false => exact frameTurned_no w hlay s A _ c z 8 (by decide) (fun W => Lib.hid (put_unnamed s A _ c W hs hn))
  | true =>
    by_cases hb : body.length ≤ 2048
    · exact frameTurned_yes w hlay s hs hn A c body hb hc hm hat z hz
    · exact frameTurned_no w hlay s A _ c z 5 (by decide) (fun W => Lib.hid (put_long s A _ c W hs hn (by omega)))
end Go.Proofs.YtaiblalebeldgaaDoor
