/- RefFive, merged: RefSum2, Ref05, Ref05Put. -/
import Derived.Test.YtanjlgkbjcienaaDoorRefTwice
import Derived.Test.YtanjlgkbjcienaaDoorFramePR
import Derived.Test.YtanjlgkbjcienaaDoorRef02
import Derived.Lib.AppendStr
/- The document's check of bytes. -/
namespace Go.Proofs.YtanjlgkbjcienaaDoor
open Go.RowKit Go.Deep
set_option linter.unusedVariables false
set_option linter.unusedSimpArgs false
set_option maxRecDepth 100000
attribute [local go_sem ↓] Go.wp_at_zero Go.wp_at_succ
theorem check_bytes (b0 b1 b2 b3 : UInt8) : ((b0.toUInt32 ||| b1.toUInt32 <<< 8 ||| b2.toUInt32 <<< 16 ||| b3.toUInt32 <<< 24).toNat : Int) = (b0.toNat : Int) + (b1.toNat : Int) * 256 + (b2.toNat : Int) * 65536 + (b3.toNat : Int) * 16777216 := by
  have h0 := b0.toNat_lt
  have h1 := b1.toNat_lt
  have h2 := b2.toNat_lt
  have h3 := b3.toNat_lt
  simp only [UInt32.toNat_or, UInt32.toNat_shiftLeft, UInt8.toNat_toUInt32]
  have s1 : b1.toNat <<< ((8 : UInt32).toNat % 32) % 2 ^ 32 = 2 ^ 8 * b1.toNat := by
    show b1.toNat <<< 8 % 2 ^ 32 = _
    rw [Nat.shiftLeft_eq]; omega
  have s2 : b2.toNat <<< ((16 : UInt32).toNat % 32) % 2 ^ 32 = 2 ^ 16 * b2.toNat := by
    show b2.toNat <<< 16 % 2 ^ 32 = _
    rw [Nat.shiftLeft_eq]; omega
  have s3 : b3.toNat <<< ((24 : UInt32).toNat % 32) % 2 ^ 32 = 2 ^ 24 * b3.toNat := by
    show b3.toNat <<< 24 % 2 ^ 32 = _
    rw [Nat.shiftLeft_eq]; omega
  rw [s1, s2, s3, Nat.or_comm b0.toNat, ← Nat.two_pow_add_eq_or_of_lt (i := 8) (by omega), Nat.or_comm _ (2 ^ 16 * b2.toNat), ← Nat.two_pow_add_eq_or_of_lt (i := 16) (by omega), Nat.or_comm _ (2 ^ 24 * b3.toNat), ← Nat.two_pow_add_eq_or_of_lt (i := 24) (by omega)]
  omega
theorem check_ref (A : Option Addr) (n c B : Nat) (m : List UInt8) (w : World) (hl : m.length = n) (hc : n ≤ c) (hm : c ≤ maxLen) (hn : n ≤ 140737488351232) (hat : BytesAt w B A m) (hB : B ≤ w.heap.size) :
    Calls Tryd.prog 61 #[.slice A n c] w fun e w' => e = .returned (.int .u32 ((Sha.check m).toNat : Int)) ∧ Below w.heap.size w w' := by
  have HT := Lib.hid (twice_ref A n c B m w hl hc hm hn hat hB)
  obtain ⟨ts, hts⟩ : ∃ ts, ts = bytesArr (Sha.twice m) := ⟨_, rfl⟩
  obtain ⟨htz, ht1⟩ := arr32 (m := Sha.sum m) hts
  have HTZ := Lib.hid htz
  have HT1 := Lib.hid ht1
  rw [← hts] at HT
  have HTS := Lib.hid hts
  have hlen : (Sha.twice m).length = 32 := sum_len _
  have HLEN := Lib.hid hlen
  have hzh := zero_hash
  obtain ⟨zh, hzhe⟩ : ∃ zh, zh = bytesArr (List.replicate 32 0) := ⟨_, rfl⟩
  rw [← hzhe] at hzh
  have HZH := Lib.hid hzh
  have HZHE := Lib.hid hzhe
  have HCK := Lib.hid (show Sha.check m = ((Sha.twice m).getD 0 0).toUInt32 ||| ((Sha.twice m).getD 1 0).toUInt32 <<< 8 ||| ((Sha.twice m).getD 2 0).toUInt32 <<< 16 ||| ((Sha.twice m).getD 3 0).toUInt32 <<< 24 from rfl)
  clear hat hzh hzhe htz ht1 hts hlen
  go_enter Tryd.func61, Tryd.ntmps61
  go_wp2_with fail
  refine HT.out.mono ?_
  rintro e w1 ⟨rfl, hb1⟩
  have HB1 := Lib.hid hb1
  clear hb1
  go_upto_region 2 with (first
    | (refine wpList_allocOf rfl 49 rfl zh HZH.out ?_)
    | (refine wpList_store_rowTo rfl 49 (.tmp 3) (.tmp 5) rfl rfl w1.heap.size ts rfl rfl 49 zh (Bk.new _ _ _) ?hi1 ?hold1 HT1.out ?_))
  case hi1 => rw [HTZ.out]; exact info_hash
  case hold1 => rw [HTZ.out, HZHE.out]; rfl
  obtain ⟨W2, hW2⟩ : ∃ W2, W2 = (w1.alloc (.cells zh 49)).setRow w1.heap.size ts := ⟨_, rfl⟩
  rw [← hW2]
  have kt : Bk W2 w1.heap.size 49 (bytesArr (Sha.twice m)) := by rw [hW2, ← HTS.out]; exact Bk.setRow (Bk.new w1 _ zh) ts
  have HB2 := Lib.hid (show Below w.heap.size w W2 by rw [hW2]; exact below_setRow (HB1.out.alloc HB1.out.size _) HB1.out.size _)
  have c0 : W2.cell? ⟨w1.heap.size, 0, none⟩ = some (.int .u8 (((Sha.twice m).getD 0 0).toNat : Int)) := by rw [kt.cell]; simp [bytesArr, byteV, HLEN.out]
  have c1 : W2.cell? ⟨w1.heap.size, 1, none⟩ = some (.int .u8 (((Sha.twice m).getD 1 0).toNat : Int)) := by rw [kt.cell]; simp [bytesArr, byteV, HLEN.out]
  have c2 : W2.cell? ⟨w1.heap.size, 2, none⟩ = some (.int .u8 (((Sha.twice m).getD 2 0).toNat : Int)) := by rw [kt.cell]; simp [bytesArr, byteV, HLEN.out]
  have c3 : W2.cell? ⟨w1.heap.size, 3, none⟩ = some (.int .u8 (((Sha.twice m).getD 3 0).toNat : Int)) := by rw [kt.cell]; simp [bytesArr, byteV, HLEN.out]
  generalize (Sha.twice m).getD 0 0 = b0 at *
  generalize (Sha.twice m).getD 1 0 = b1 at *
  generalize (Sha.twice m).getD 2 0 = b2 at *
  generalize (Sha.twice m).getD 3 0 = b3 at *
  have h0 := b0.toNat_lt
  have h1 := b1.toNat_lt
  have h2 := b2.toNat_lt
  have h3 := b3.toNat_lt
  clear hW2 kt
  go_wp2_with fail
  go_ret
  refine ⟨ret_u32 ?_, HB2.out⟩
  rw [HCK.out, check_bytes]
  all_goals omega
end Go.Proofs.YtanjlgkbjcienaaDoor
/- The document's frames: names, what is put. -/
namespace Go.Proofs.YtanjlgkbjcienaaDoor
open Go.RowKit Go.Deep
set_option linter.unusedVariables false
set_option linter.unusedSimpArgs false
set_option maxRecDepth 100000
attribute [local go_sem ↓] Go.wp_at_zero Go.wp_at_succ
theorem take_all_next (s : ByteArray) {k : Nat} (h : k < s.size) : (s.data.toList.take (k + 1)).all Frm.letter = ((s.data.toList.take k).all Frm.letter && Frm.letter s[k]) := by
  have h' : k < s.data.toList.length := by rw [str_len]; exact h
  rw [List.take_succ_eq_append_getElem h', List.all_append]
  simp only [List.all_cons, List.all_nil, Bool.and_true]
  rfl
theorem not_letter (s : ByteArray) {k : Nat} (h : k < s.size) (hn : Frm.letter s[k] = false) : Frm.named s.data.toList = false := by
  have h' : k < s.data.toList.length := by rw [str_len]; exact h
  have : s.data.toList.all Frm.letter = false := by
    rw [List.all_eq_false]
    exact ⟨s.data.toList[k], List.getElem_mem h', by rw [show s.data.toList[k] = s[k] from rfl, hn]; simp⟩
  unfold Frm.named
  rw [this, Bool.and_false]
theorem named_all (s : ByteArray) (h : s.data.toList.all Frm.letter = true) : Frm.named s.data.toList = (decide (1 ≤ s.size) && decide (s.size ≤ 12)) := by
  unfold Frm.named
  rw [h, Bool.and_true, str_len]
  congr 1
  by_cases h0 : s.data.toList = []
  · have : s.size = 0 := by rw [← str_len, h0]; rfl
    simp [h0, this]
  · have : 0 < s.size := by rw [← str_len]; exact List.length_pos_iff.2 h0
    simp [h0]; omega
theorem named_ref (s : ByteArray) (w : World) (hs : s.size ≤ 9223372036854775807) : Calls Tryd.prog 59 #[.string s] w fun e w' => e = .returned (.bool (Frm.named s.data.toList)) ∧ w = w' := by
  go_enter Tryd.func59, Tryd.ntmps59
  go_wp2_with fail
  go_loop [6] (fun i => ∃ k : Nat, k ≤ s.size ∧ i = .int .i64 (k : Int) ∧ Hid ((s.data.toList.take k).all Frm.letter = true)) (fun i => s.size - (intOf i).toNat)
  case atStart => exact ⟨0, Nat.zero_le _, rfl, Lib.hid rfl⟩
  case round =>
    obtain ⟨k, hk, rfl, ha⟩ := hrel
    by_cases hlt : k < s.size
    · have hlt' : (k : Int) < (s.size : Int) := by omega
      have HT := Lib.hid (take_all_next s hlt)
      have HLT := Lib.hid (show Frm.letter s[k] = decide (97 ≤ s[k].toNat ∧ s[k].toNat ≤ 122) from rfl)
      have HNL := Lib.hid (not_letter s hlt)
      by_cases g1 : s[k].toNat < 97
      · have g1' : (s[k].toNat : Int) < 97 := by omega
        go_wp2_with fail
        go_ret
        exact ⟨ret_bool (HNL.out (by rw [HLT.out]; exact decide_eq_false (by omega))).symm, rfl⟩
      · have g1' : ¬ (s[k].toNat : Int) < 97 := by omega
        by_cases g2 : 122 < s[k].toNat
        · have g2' : (122 : Int) < (s[k].toNat : Int) := by omega
          go_wp2_with fail
          go_ret
          exact ⟨ret_bool (HNL.out (by rw [HLT.out]; exact decide_eq_false (by omega))).symm, rfl⟩
        · have g2' : ¬ (122 : Int) < (s[k].toNat : Int) := by omega
          go_wp2_with fail
          go_round
          case rel => exact ⟨k + 1, by omega, by go_num, Lib.hid (by rw [HT.out, ha.out, HLT.out]; simp; omega)⟩
          case measure => simp [intOf]; omega
    · have hlt' : ¬ (k : Int) < (s.size : Int) := by omega
      have HNA := Lib.hid (named_all s (by have := ha.out; rwa [show k = s.data.toList.length by rw [str_len]; omega, List.take_length] at this))
      clear ha
      by_cases h1 : 1 ≤ s.size
      · have h1' : (1 : Int) ≤ (s.size : Int) := by omega
        by_cases h12 : s.size ≤ 12
        · have h12' : (s.size : Int) ≤ 12 := by omega
          go_wp2_with fail
          go_ret
          exact ⟨ret_bool (by rw [HNA.out]; simp [h1, h12]), rfl⟩
        · have h12' : ¬ (s.size : Int) ≤ 12 := by omega
          go_wp2_with fail
          go_ret
          exact ⟨ret_bool (by rw [HNA.out]; simp [h12]), rfl⟩
      · have h1' : ¬ (1 : Int) ≤ (s.size : Int) := by omega
        go_wp2_with fail
        go_ret
        exact ⟨ret_bool (by rw [HNA.out]; simp [h1]), rfl⟩
theorem magic_ref (w : World) : Calls Tryd.prog 60 #[] w fun e w' => ∃ g, e = .returned (.slice (some ⟨g, 0, none⟩) 4 4) ∧ w.heap.size ≤ g ∧ Bk w' g 5 (bytesArr Frm.magic) ∧ Below w.heap.size w w' := by
  go_enter Tryd.func60, Tryd.ntmps60
  go_wp2
  go_ret
  exact ⟨_, rfl, Nat.le_refl _, Bk.new _ _ _, Joins.below_alloc1 _ _⟩
end Go.Proofs.YtanjlgkbjcienaaDoor
/- The document's frames: what is put. -/
namespace Go.Proofs.YtanjlgkbjcienaaDoor
open Go.RowKit Go.Deep
set_option linter.unusedVariables false
set_option linter.unusedSimpArgs false
set_option maxRecDepth 100000
attribute [local go_sem ↓] Go.wp_at_zero Go.wp_at_succ
theorem BRel.after {w0 w w' : World} {B : Nat} {l : List UInt8} {v : Value} (g : BRel w0 B l v w) (hb : Below w.heap.size w w') (hB : B ≤ w.heap.size) : BRel w0 B l v w' := ⟨own_below g.row hb, g.below.trans (hb.mono hB)⟩
theorem at_grown {w w' : World} {row : Option Nat} {B : Nat} {A : Option Addr} {l : List UInt8} (h : BytesAt w B A l) (hg : w.grownBy w' row) (hB : B ≤ w.heap.size) (hA : ∀ a, A = some a → row ≠ some a.block) : BytesAt w' B A l := by
  intro i hi
  obtain ⟨b, off, vs, rfl, hb, hR, hc⟩ := h i hi
  refine ⟨b, off, vs, rfl, hb, hR, fun j hj => ?_⟩
  rw [← hc j hj]
  exact World.cell?_of_block (hg.block b (by omega) (fun e => hA _ rfl e.symm))
theorem BRel.off {w0 w : World} {B : Nat} {l r : List UInt8} {v : Value} {A : Option Addr} {B' : Nat} (g : BRel w0 B l v w) (h : BytesAt w B' A r) (hB : B' ≤ B) {w' : World} (hg : w.grownBy w' v.ownBlock) (hw : B ≤ w.heap.size) : BytesAt w' B' A r := by
  intro i hi
  obtain ⟨b, off, vs, rfl, hb, hR, hc⟩ := h i hi
  refine ⟨b, off, vs, rfl, hb, hR, fun j hj => ?_⟩
  rw [← hc j hj]
  exact World.cell?_of_block (hg.block b (by omega) (fun e => by have := (g.row.lt b e.symm).1; omega))
theorem rfput_unnamed (s : ByteArray) (A : Option Addr) (n c : Nat) (w : World) (hs : s.size ≤ 9223372036854775807) (hn : Frm.named s.data.toList = false) :
    Calls Tryd.prog 43 #[.string s, .slice A n c] w fun e w' => e = .returned (.tuple #[.slice none 0 0, .int .i64 8]) ∧ Below w.heap.size w w' := by
  have HN := Lib.hid (named_ref s w hs)
  rw [hn] at HN
  clear hn
  go_enter Tryd.func43, Tryd.ntmps43
  go_wp2_with fail
  refine HN.out.mono ?_
  rintro e w1 ⟨rfl, rfl⟩
  go_wp2_with fail
  go_ret2
  exact ⟨rfl, Below.refl _ _⟩
theorem rfput_long (s : ByteArray) (A : Option Addr) (n c : Nat) (w : World) (hs : s.size ≤ 9223372036854775807) (hn : Frm.named s.data.toList = true) (hl : 2048 < n) :
    Calls Tryd.prog 43 #[.string s, .slice A n c] w fun e w' => e = .returned (.tuple #[.slice none 0 0, .int .i64 5]) ∧ Below w.heap.size w w' := by
  have HN := Lib.hid (named_ref s w hs)
  rw [hn] at HN
  have hl' : (2048 : Int) < (n : Int) := by omega
  clear hn
  go_enter Tryd.func43, Tryd.ntmps43
  go_wp2_with fail
  refine HN.out.mono ?_
  rintro e w1 ⟨rfl, rfl⟩
  go_wp2_with fail
  go_ret2
  exact ⟨rfl, Below.refl _ _⟩
set_option maxHeartbeats 1000000 in
theorem rfput_yes (s : ByteArray) (A : Option Addr) (c B : Nat) (body : List UInt8) (w : World) (hs : s.size ≤ 9223372036854775807) (hn : Frm.named s.data.toList = true) (hl : body.length ≤ 2048) (hb : BytesAt w B A body) (hB : B ≤ w.heap.size) (hc : body.length ≤ c) (hm : c ≤ maxLen) :
    Calls Tryd.prog 43 #[.string s, .slice A body.length c] w fun e w' => ∃ v, e = .returned (.tuple #[v, .int .i64 0]) ∧ OwnB w' w.heap.size v (Frm.put s.data.toList body) ∧ Below w.heap.size w w' := by
  have HN := Lib.hid (named_ref s w hs)
  rw [hn] at HN
  obtain ⟨_, hsl, _⟩ := named_len hn
  rw [str_len] at hsl
  have hl' : ¬ (2048 : Int) < (body.length : Int) := by omega
  obtain ⟨i0, hi, hi0, hi1, hi2⟩ := info_parts byte_info
  have Hi := Lib.hid hi
  have Hz := Lib.hid hi0
  have Hz1 := Lib.hid hi1
  have Hz2 := Lib.hid hi2
  have HAT := Lib.hid hb
  have HP1 := Lib.hid (show ∀ W : World, Calls Tryd.prog 55 #[.int .u64 (body.length : Int), .int .i64 4] W fun r w' => ∃ v, r = .returned (.tuple #[v, .int .i64 0]) ∧ OwnB w' W.heap.size v (Oct.le body.length 4) ∧ Below W.heap.size W w' from fun W =>
    (rput_yes body.length 4 (by unfold U64; omega) (by omega) W).mono fun r w' ⟨v, e, h1, _, h3, h4⟩ => by obtain ⟨h5, rfl⟩ := h3 (by omega); exact ⟨v, h1, h5, h4⟩)
  have HP2 := Lib.hid (show ∀ W : World, Calls Tryd.prog 55 #[.int .u64 ((Sha.check body).toNat : Int), .int .i64 4] W fun r w' => ∃ v, r = .returned (.tuple #[v, .int .i64 0]) ∧ OwnB w' W.heap.size v (Oct.le (Sha.check body).toNat 4) ∧ Below W.heap.size W w' from fun W =>
    (rput_yes (Sha.check body).toNat 4 (by have := u32_lt (Sha.check body); unfold U64; omega) (by omega) W).mono fun r w' ⟨v, e, h1, _, h3, h4⟩ => by obtain ⟨h5, rfl⟩ := h3 (by have := u32_lt (Sha.check body); omega); exact ⟨v, h1, h5, h4⟩)
  have HCK := Lib.hid (fun W h1 h2 => check_ref A body.length c B body W rfl hc hm (by omega) h1 h2)
  obtain ⟨ck, hck⟩ : ∃ ck, ck = Sha.check body := ⟨_, rfl⟩
  rw [← hck] at HP2 HCK
  have HCKE := Lib.hid hck
  clear hn hb hi hi0 hi1 hi2 hck
  go_enter Tryd.func43, Tryd.ntmps43
  go_wp2_with fail
  refine HN.out.mono ?_
  rintro e w1 ⟨rfl, rfl⟩
  go_wp2_with fail
  refine (magic_ref _).mono ?_
  rintro e w2 ⟨g, rfl, hg, hk, hb2⟩
  have g2 : BRel w w.heap.size Frm.magic (.slice (some ⟨g, 0, none⟩) 4 4) w2 := ⟨hk.own (base := w.heap.size) hg (by simp [Frm.magic, maxLen]), hb2⟩
  have hw2 := hb2.size
  have HG2 := Lib.hid g2
  clear hk hb2 hg g2
  go_upto_region 6 with (at_builtin; refine Lib.wpList_append_own_string _ rfl (.tmp 17) (.tmp 18) 33 9 rfl w.heap.size 5 i0 Tryd.underlying33 Tryd.underlying9 Hi.out Hz.out Hz1.out Hz2.out (.slice (some ⟨g, 0, none⟩) 4 4) 4 (Frm.magic.map byteV) rfl HG2.out.row s rfl (by unfold maxLen; omega) (by omega) hw2 ?_; intro v3 w3 hrow3 hg3 _)
  have g3 := HG2.out.steps (r := s.data.toList) hw2 (str_len s).symm hrow3 hg3
  have HG3 := Lib.hid g3
  have hlm : (Frm.magic ++ s.data.toList).length = 4 + s.size := by rw [List.length_append, str_len]; rfl
  have HLM := Lib.hid hlm
  clear g3 hrow3 hg3 HG2 hlm
  go_loopw [6] (fun v wr => ∃ j : Nat, j ≤ 12 - s.size ∧ Hid (BRel w w.heap.size (Frm.magic ++ s.data.toList ++ List.replicate j 0) v wr)) (fun v wr => 17 - lenOf v)
  case atStart => exact ⟨0, Nat.zero_le _, Lib.hid (by rw [List.replicate_zero, List.append_nil]; exact HG3.out)⟩
  case round =>
    clear HG3
    obtain ⟨j, hj, hr⟩ := hrel
    have hlen : (Frm.magic ++ s.data.toList ++ List.replicate j 0).length = 4 + s.size + j := by rw [List.length_append, HLM.out, List.length_replicate]
    obtain ⟨A3, c3, rfl, hc3, hm3, _, _⟩ := hr.out.row.at_
    have hrow := hr.out.row
    unfold OwnB at hrow
    rw [hlen] at hrow hc3 hr
    have hwr := hr.out.below.size
    rw [hlen]
    obtain ⟨N, hN⟩ : ∃ N, N = 4 + s.size + j := ⟨_, rfl⟩
    rw [← hN] at hrow hc3 hr
    rw [← hN]
    have HN2 := Lib.hid hN
    have HLEN := Lib.hid hlen
    by_cases hlt : j < 12 - s.size
    · have en : (N : Int) < 16 := by omega
      clear hlen hN
      go_wp2_with (at_builtin; refine wpList_app _ rfl (.tmp 23) (.tmp 24) _ rfl w.heap.size 5 i0 _ 1 1 Tryd.underlying33 Hi.out Hz.out Hz1.out Hz2.out rfl (by decide) (.slice A3 N c3) _ _ rfl (hrow.alloc _) (some ⟨wr.heap.size, 0, none⟩) 1 1 [.int .u8 0] rfl rfl (Src.at_ _ _ _ _ _ (by simp) rfl) (by simp [Value.oneCell']) (by have := HN2.out; unfold maxLen; omega) (by have := HN2.out; omega) (by rw [World.size_alloc]; omega) ?_; intro v4 w4 hrow4 hg4 _)
      have hst := hr.out.step (by omega) 0 rfl (by rw [HLEN.out, ← HN2.out]; exact hrow4) hg4
      rw [List.append_assoc, ← List.replicate_succ'] at hst
      obtain ⟨A4, c4, rfl, _⟩ := own_form hrow4
      go_roundw
      case rel => exact ⟨j + 1, by omega, Lib.hid hst⟩
      case measure => simp only [lenOf]; omega
    · have en : ¬ (N : Int) < 16 := by omega
      have hj12 : j = 12 - s.size := by omega
      have hN16 : N = 16 := by omega
      obtain ⟨L, hL⟩ : ∃ L, L = Frm.magic ++ s.data.toList ++ List.replicate j 0 := ⟨_, rfl⟩
      have hr1 := hr.out
      rw [← hL] at hr1
      have hLl : L.length = 16 := by rw [hL, hlen]; omega
      have HL := Lib.hid hL
      have HJ := Lib.hid hj12
      have HR := Lib.hid hr1
      have HLL := Lib.hid hLl
      clear hr hr1 hL hlen hLl hrow hN HN2 HLEN en hlt hj12
      subst hN16
      go_wp2_with fail
      refine (HP1.out _).mono ?_
      rintro e w5 ⟨v5, rfl, ho5, hb5⟩
      obtain ⟨A5, c5, rfl, _, hm5, hat5, hlo5⟩ := ho5.at_
      rw [Oct.le_length]
      have HG5 := Lib.hid (HR.out.after hb5 hwr)
      have HA5 := Lib.hid hat5
      have HLO5 := Lib.hid hlo5
      have hz5 := hb5.size
      clear hb5 ho5 hat5 hlo5
      go_wp2_with fail
      refine (HCK.out _ (HAT.out.below (HG5.out.below.mono hB)) (by omega)).mono ?_
      rintro e w6 ⟨rfl, hb6⟩
      have HG6 := Lib.hid (HG5.out.after hb6 (by omega))
      have HA6 := Lib.hid (HA5.out.below hb6)
      have hz6 := hb6.size
      clear hb6 HA5 HG5
      have hu := u32_lt ck
      go_wp2_with fail
      refine (HP2.out _).mono ?_
      rintro e w7 ⟨v7, rfl, ho7, hb7⟩
      obtain ⟨A7, c7, rfl, _, hm7, hat7, hlo7⟩ := ho7.at_
      rw [Oct.le_length]
      have HG7 := Lib.hid (HG6.out.after hb7 (by omega))
      have HOW6 := Lib.hid (show ∀ i, (Value.slice A3 16 c3).ownBlock = some i → i < w6.heap.size from fun i e => (HG6.out.row.lt i e).2)
      have HAT7 := Lib.hid ((HAT.out.below (HG6.out.below.mono hB)).below (hb7.mono (by omega)))
      have hrow7 : w7.ownsRow w.heap.size 5 1 (.slice A3 16 c3) 16 (L.map byteV) := by have h := HG7.out.row; unfold OwnB at h; rwa [HLL.out] at h
      have HROW7 := Lib.hid hrow7
      have hw7 : w.heap.size ≤ w7.heap.size := by have := hb7.size; omega
      clear hrow7
      have HA75 := Lib.hid (HA6.out.below (hb7.mono (by omega)))
      have HA7 := Lib.hid hat7
      have HLO7 := Lib.hid hlo7
      have hz7 := hb7.size
      clear hb7 ho7 hat7 hlo7 HG6 HA6 hu
      have HS5 := Lib.hid (BytesAt.src HA75.out)
      go_wp2_with (first
        | (at_builtin; refine wpList_app _ rfl (.tmp 40) (.tmp 41) _ rfl w.heap.size 5 i0 _ 1 1 Tryd.underlying33 Hi.out Hz.out Hz1.out Hz2.out rfl (by decide) (.slice A3 16 c3) 16 (L.map byteV) rfl HROW7.out A5 4 c5 ((Oct.le body.length 4).map byteV) rfl (by rw [List.length_map, Oct.le_length]) HS5.out (oneCell_bytes _) (by unfold maxLen; omega) (by omega) hw7 ?_; intro v8 w8 hrow8 hg8 _; have g8 := HG7.out.steps (r := Oct.le body.length 4) hw7 (Oct.le_length _ _).symm (by rw [HLL.out]; exact hrow8) hg8; have hw8 := g8.below.size; have hs7 := BytesAt.src (at_grown HA7.out hg8 (Nat.le_refl _) (fun a ha e => by have h1 := HOW6.out _ e; have h2 := (HLO7.out a ha).1; omega)); have hat8 := HG7.out.off HAT7.out hB hg8 hw7)
        | (at_builtin; refine wpList_app _ rfl (.tmp 43) (.tmp 44) _ rfl w.heap.size 5 i0 _ 1 1 Tryd.underlying33 Hi.out Hz.out Hz1.out Hz2.out rfl (by decide) v8 (16 + 4) _ rfl hrow8 A7 4 c7 ((Oct.le ck.toNat 4).map byteV) rfl (by rw [List.length_map, Oct.le_length]) hs7 (oneCell_bytes _) (by unfold maxLen; omega) (by omega) hw8 ?_; intro v9 w9 hrow9 hg9 _; have g9 := g8.steps (r := Oct.le ck.toNat 4) hw8 (Oct.le_length _ _).symm (by rw [List.length_append, HLL.out, Oct.le_length, List.map_append]; exact hrow9) hg9; have hw9 := g9.below.size; have hat9 := g8.off hat8 hB hg9 hw8; have hs9 := BytesAt.src hat9)
        | (at_builtin; refine wpList_app _ rfl (.tmp 46) (.tmp 47) _ rfl w.heap.size 5 i0 _ 1 1 Tryd.underlying33 Hi.out Hz.out Hz1.out Hz2.out rfl (by decide) v9 (16 + 4 + 4) _ rfl hrow9 A body.length c (body.map byteV) rfl (by rw [List.length_map, Nat.mul_one]) hs9 (oneCell_bytes _) (by unfold maxLen; omega) (by omega) hw9 ?_; intro v10 w10 hrow10 hg10 _; have g10 := g9.steps (r := body) hw9 rfl (by rw [List.length_append, List.length_append, HLL.out, Oct.le_length, Oct.le_length, List.map_append, List.map_append]; exact hrow10) hg10))
      go_ret2
      refine ⟨v10, rfl, ?_, g10.below⟩
      have hput : L ++ Oct.le body.length 4 ++ Oct.le ck.toNat 4 ++ body = Frm.put s.data.toList body := by
        rw [HL.out, HJ.out, HCKE.out, ← str_len]; rfl
      rw [← hput]
      exact g10.row
end Go.Proofs.YtanjlgkbjcienaaDoor
