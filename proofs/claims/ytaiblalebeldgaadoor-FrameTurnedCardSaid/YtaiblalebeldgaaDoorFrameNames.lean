/- Other names are refused. -/
import Derived.Test.YtaiblalebeldgaaDoorFrameShort
namespace Go.Proofs.YtaiblalebeldgaaDoor.Frm
theorem strip_append (l : List UInt8) (n : Nat) : strip (l ++ List.replicate n 0) = strip l := by
  unfold strip
  rw [List.reverse_append, List.dropWhile_append_of_pos (by intro a ha; simp at ha; simp [ha.2])]
theorem strip_len (l : List UInt8) : (strip l).length ≤ l.length := by
  unfold strip
  rw [List.length_reverse]
  exact Nat.le_trans (List.IsSuffix.length_le (List.dropWhile_suffix _)) (by simp)
theorem head_any {cmd : List UInt8} (h12 : cmd.length ≤ 12) (n s : Nat) (hn : n < 4294967296) (hs : s < 4294967296) :
    head (headOf cmd n s) = if 2048 < n then (⟨[], 0, 0⟩, 5) else (⟨name (cmd ++ List.replicate (12 - cmd.length) 0), n, s⟩, 0) := by
  have hl := headOf_len h12 n s
  have e4 : (headOf cmd n s).take 4 = magic := by
    simp only [headOf, List.append_assoc]; exact List.take_left' rfl
  have p16 : (magic ++ cmd ++ List.replicate (12 - cmd.length) (0 : UInt8)).length = 16 := by
    simp only [List.length_append, List.length_replicate]; show 4 + _ + _ = 16; omega
  have e16 : (headOf cmd n s).drop 16 = Oct.le n 4 ++ Oct.le s 4 := by
    unfold headOf; rw [List.append_assoc, List.drop_left' p16]
  have e16' : ((headOf cmd n s).drop 16).take 4 = Oct.le n 4 := by rw [e16]; exact List.take_left' (Oct.le_length _ _)
  have e20 : (headOf cmd n s).drop 20 = Oct.le s 4 := by
    rw [show 20 = 16 + 4 from rfl, ← List.drop_drop, e16]; exact List.drop_left' (Oct.le_length _ _)
  have e412 : ((headOf cmd n s).drop 4).take 12 = cmd ++ List.replicate (12 - cmd.length) 0 := by
    simp only [headOf, List.append_assoc]
    rw [List.drop_left' (show magic.length = 4 from rfl), ← List.append_assoc]
    exact List.take_left' (by rw [List.length_append, List.length_replicate]; omega)
  have vn : Oct.val (Oct.le n 4) = n := by rw [Oct.val_le]; exact Nat.mod_eq_of_lt hn
  have vs : Oct.val (Oct.le s 4) = s := by rw [Oct.val_le]; exact Nat.mod_eq_of_lt hs
  unfold head
  rw [if_neg (by rw [hl]; simp), if_neg (by rw [e4]; simp), e16', e20, e412, vn, vs]
theorem get_any_name {cmd body : List UInt8} (h12 : cmd.length ≤ 12) (hb : body.length ≤ 2048) :
    get (headOf cmd body.length (Sha.check body).toNat ++ body) = if name (cmd ++ List.replicate (12 - cmd.length) 0) = [] then ([], [], 24 + body.length, 8) else (name (cmd ++ List.replicate (12 - cmd.length) 0), body, 24 + body.length, 0) := by
  have hs := (Sha.check body).toNat_lt
  have hl := headOf_len h12 body.length (Sha.check body).toNat
  have hh := head_any h12 body.length (Sha.check body).toNat (by omega) hs
  rw [if_neg (by omega)] at hh
  unfold get
  rw [if_neg (by rw [List.length_append, hl]; omega), List.take_left' hl, hh]
  simp only [ne_eq, not_true_eq_false, if_false]
  rw [if_neg (by rw [List.length_append, hl]; omega), List.drop_left' hl, List.take_of_length_le (Nat.le_refl _)]
  simp
/-- a frame whose name isn't one: it is read with another name, or refused for it -/
theorem get_names {cmd body : List UInt8} (h12 : cmd.length ≤ 12) (hb : body.length ≤ 2048) (hn : named cmd = false) :
    (∃ c, get (headOf cmd body.length (Sha.check body).toNat ++ body) = (c, body, 24 + body.length, 0) ∧ c ≠ cmd ∧ named c = true) ∨ get (headOf cmd body.length (Sha.check body).toNat ++ body) = ([], [], 24 + body.length, 8) := by
  rw [get_any_name h12 hb]
  by_cases h : name (cmd ++ List.replicate (12 - cmd.length) 0) = []
  · rw [if_pos h]; exact .inr rfl
  · rw [if_neg h]
    refine .inl ⟨_, rfl, ?_⟩
    unfold name at h ⊢
    rw [strip_append] at h ⊢
    by_cases h1 : strip cmd = []
    · rw [if_pos h1] at h; exact absurd rfl h
    · rw [if_neg h1] at h ⊢
      by_cases h2 : (strip cmd).all letter = true
      · rw [if_pos h2] at h ⊢
        have hl := strip_len cmd
        have hnm : named (strip cmd) = true := by
          unfold named
          rw [h2]; simp [h1]; omega
        refine ⟨fun e => ?_, hnm⟩
        rw [e, hn] at hnm
        cases hnm
      · rw [if_neg h2] at h; exact absurd rfl h
theorem names_row {cmd : List UInt8} (body : List UInt8) (h12 : cmd.length ≤ 12) :
    ((put [97] body).set 4 0).take 4 ++ cmd ++ ((put [97] body).set 4 0).drop (4 + cmd.length) = headOf cmd body.length (Sha.check body).toNat ++ body := by
  have e : (put [97] body).set 4 0 = magic ++ (List.replicate 12 0 ++ (Oct.le body.length 4 ++ Oct.le (Sha.check body).toNat 4 ++ body)) := by
    unfold put
    simp only [List.append_assoc]
    rfl
  rw [e, List.take_left' (show magic.length = 4 from rfl), ← List.drop_drop, List.drop_left' (show magic.length = 4 from rfl), List.drop_append, List.drop_replicate, List.length_replicate, show cmd.length - 12 = 0 by omega, List.drop_zero]
  simp only [headOf, List.append_assoc]
end Go.Proofs.YtaiblalebeldgaaDoor.Frm
namespace Go.Proofs.YtaiblalebeldgaaDoor
open Go.RowKit Go.Deep
set_option linter.unusedVariables false
set_option linter.unusedSimpArgs false
set_option maxRecDepth 100000
attribute [local go_sem ↓] Go.wp_at_zero Go.wp_at_succ
theorem frameNames_great (w : World) (hlay : Laid w) (s : ByteArray) (A : Option Addr) (n c : Nat) (hr : 2000 < n) :
    Calls Tryd.prog 9 #[.string s, .slice A n c] w fun e w' => e = .returned (.bool true) ∧ Below w.heap.size w w' := by
  have hr' : (2000 : Int) < (n : Int) := by omega
  have HA := Lib.hid (frame_alive w hlay)
  clear hlay
  go_enter Tryd.func9, Tryd.ntmps9
  go_wp2_with fail
  refine HA.out.mono ?_
  rintro e w1 ⟨rfl, hb1⟩
  go_wp2_with fail
  go_ret
  exact ⟨rfl, hb1⟩
theorem frameNames_long (w : World) (hlay : Laid w) (s : ByteArray) (hs : s.size ≤ 9223372036854775807) (A : Option Addr) (n c : Nat) (hr : n ≤ 2000) (h12 : 12 < s.size) :
    Calls Tryd.prog 9 #[.string s, .slice A n c] w fun e w' => e = .returned (.bool true) ∧ Below w.heap.size w w' := by
  have hr' : ¬ (2000 : Int) < (n : Int) := by omega
  have h0' : (0 : Int) < (s.size : Int) := by omega
  have h12' : ¬ (s.size : Int) ≤ 12 := by omega
  have hn : Frm.named s.data.toList = false := by unfold Frm.named; rw [str_len]; simp; omega
  have HA := Lib.hid (frame_alive w hlay)
  have HP := fun W => Lib.hid (put_unnamed s A n c W hs hn)
  have hN := fun W => named_any s W hs
  rw [hn] at hN
  have HN := Lib.hid hN
  clear hlay hn hN
  have hd12 : decide ((s.size : Int) ≤ 12) = false := decide_eq_false h12'
  go_enter Tryd.func9, Tryd.ntmps9
  go_wp2_with fail
  refine HA.out.mono ?_
  rintro e w1 ⟨rfl, hb1⟩
  have HB1 := Lib.hid hb1
  clear hb1
  go_wp2_with fail
  · skip
    go_loop [5, 31] (fun g i => g = .bool false ∧ ∃ k : Nat, k ≤ 13 ∧ i = .int .i64 (k : Int)) (fun g i => 13 - (intOf i).toNat)
    case atStart => exact ⟨rfl, 0, Nat.zero_le _, rfl⟩
    case round =>
      obtain ⟨rfl, k, hk, rfl⟩ := hrel
      by_cases hlt : k < 13
      · have hlt' : (k : Int) < 13 := by omega
        go_wp2_with fail
        go_round
        case rel => exact ⟨rfl, k + 1, by omega, by go_num⟩
        case measure => simp [intOf]; omega
      · have hlt' : ¬ (k : Int) < 13 := by omega
        go_wp2_with fail
        refine (HP _).out.mono ?_
        rintro e w2 ⟨rfl, hb2⟩
        have HB2 := Lib.hid (HB1.out.trans (hb2.mono HB1.out.size))
        clear hb2
        go_wp2_with fail
        refine (HN.out _).mono ?_
        rintro e w3 ⟨rfl, hb3⟩
        have HB3 := Lib.hid (HB2.out.trans (hb3.mono HB2.out.size))
        clear hb3
        go_wp2_with fail
        go_ret
        exact ⟨rfl, HB3.out⟩
  · have hs13 : s.size = 13 := by omega
    go_loop [5, 31] (fun g i => g = .bool false ∧ ∃ k : Nat, k ≤ 13 ∧ i = .int .i64 (k : Int)) (fun g i => 13 - (intOf i).toNat)
    case atStart => exact ⟨rfl, 0, Nat.zero_le _, rfl⟩
    case round =>
      obtain ⟨rfl, k, hk, rfl⟩ := hrel
      by_cases hlt : k < 13
      · have hlt' : (k : Int) < (s.size : Int) := by omega
        go_wp2_with fail
        go_round
        case rel => exact ⟨rfl, k + 1, by omega, by go_num⟩
        case measure => simp [intOf]; omega
      · have hlt' : ¬ (k : Int) < (s.size : Int) := by omega
        go_wp2_with fail
        refine (HP _).out.mono ?_
        rintro e w2 ⟨rfl, hb2⟩
        have HB2 := Lib.hid (HB1.out.trans (hb2.mono HB1.out.size))
        clear hb2
        go_wp2_with fail
        refine (HN.out _).mono ?_
        rintro e w3 ⟨rfl, hb3⟩
        have HB3 := Lib.hid (HB2.out.trans (hb3.mono HB2.out.size))
        clear hb3
        go_wp2_with fail
        go_ret
        exact ⟨rfl, HB3.out⟩
theorem all_getD {l : List UInt8} (h : l.all Frm.letter = true) {k : Nat} (hk : k < l.length) : 97 ≤ (l.getD k 0).toNat ∧ (l.getD k 0).toNat ≤ 122 := by
  have := List.all_eq_true.1 h l[k] (List.getElem_mem hk)
  rw [List.getD_eq_getElem?_getD, List.getElem?_eq_getElem hk]
  simpa [Frm.letter] using this
theorem str_get (s : ByteArray) {k : Nat} (h : k < s.size) : s.data.toList.getD k 0 = s[k] := by
  have h' : k < s.data.toList.length := by rw [str_len]; exact h
  rw [List.getD_eq_getElem?_getD, List.getElem?_eq_getElem h']
  rfl
theorem frameNames_good (w : World) (hlay : Laid w) (s : ByteArray) (hs : s.size ≤ 9223372036854775807) (hn : Frm.named s.data.toList = true) (A : Option Addr) (c : Nat) (body : List UInt8) (hl : body.length ≤ 2000) (hc : body.length ≤ c) (hm : c ≤ maxLen) (hat : BytesAt w w.heap.size A body) :
    Calls Tryd.prog 9 #[.string s, .slice A body.length c] w fun e w' => e = .returned (.bool true) ∧ Below w.heap.size w w' := by
  have hr' : ¬ (2000 : Int) < (body.length : Int) := by omega
  obtain ⟨h0, h12, hall⟩ := named_len hn
  have h0s : 0 < s.size := by rw [← str_len]; exact List.length_pos_iff.2 h0
  rw [str_len] at h12
  have h0' : (0 : Int) < (s.size : Int) := by omega
  have hd12 : decide ((s.size : Int) ≤ 12) = true := decide_eq_true (by omega)
  have h13 : (s.size : Int) ≤ 13 := by omega
  have hp24 : (0 : Int) < 24 + (body.length : Int) := by omega
  have HA := Lib.hid (frame_alive w hlay)
  have HALL := Lib.hid hall
  have HP := fun W h1 h2 h3 => Lib.hid (put_row s A c w.heap.size body W h1 hs hn (by omega) h2 h3 hc hm)
  have HL := Lib.hid hlay
  have HAT := Lib.hid hat
  have hN := fun W => named_any s W hs
  rw [hn] at hN
  have HN := Lib.hid hN
  clear hlay hn hN hall h0 hat
  go_enter Tryd.func9, Tryd.ntmps9
  go_wp2_with fail
  refine HA.out.mono ?_
  rintro e w1 ⟨rfl, hb1⟩
  have HB1 := Lib.hid hb1
  clear hb1
  go_wp2_with fail
  go_loop [5, 31] (fun g i => g = .bool true ∧ ∃ k : Nat, k ≤ s.size ∧ i = .int .i64 (k : Int)) (fun g i => s.size - (intOf i).toNat)
  case atStart => exact ⟨rfl, 0, Nat.zero_le _, rfl⟩
  case round =>
    obtain ⟨rfl, k, hk, rfl⟩ := hrel
    by_cases hlt : k < s.size
    · have hlt' : (k : Int) < (s.size : Int) := by omega
      obtain ⟨g1, g2⟩ := all_getD HALL.out (k := k) (by rw [str_len]; exact hlt)
      rw [str_get s hlt] at g1 g2
      have d1 : decide ((97 : Int) ≤ (s[k].toNat : Int)) = true := decide_eq_true (by omega)
      have d2 : decide ((s[k].toNat : Int) ≤ 122) = true := decide_eq_true (by omega)
      have e1 : (97 : Int) ≤ (s[k].toNat : Int) := by omega
      go_wp2_with fail
      go_round
      case rel => exact ⟨rfl, k + 1, by omega, by go_num⟩
      case measure => simp [intOf]; omega
    · have hlt' : ¬ (k : Int) < (s.size : Int) := by omega
      go_wp2_with fail
      refine (HP _ (HL.out.below HB1.out) (HAT.out.below HB1.out) HB1.out.size).out.mono ?_
      rintro e w2 ⟨g, rfl, hg, hk2, hb2⟩
      have HB2 := Lib.hid (HB1.out.trans (hb2.mono HB1.out.size))
      clear hb2 hk2
      go_wp2_with fail
      refine (HN.out _).mono ?_
      rintro e w3 ⟨rfl, hb3⟩
      have HB3 := Lib.hid (HB2.out.trans (hb3.mono HB2.out.size))
      clear hb3
      go_wp2_with fail
      go_ret
      exact ⟨rfl, HB3.out⟩
theorem take_all_next (s : ByteArray) {k : Nat} (h : k < s.size) : (s.data.toList.take (k + 1)).all Frm.letter = ((s.data.toList.take k).all Frm.letter && Frm.letter s[k]) := by
  have h' : k < s.data.toList.length := by rw [str_len]; exact h
  rw [List.take_succ_eq_append_getElem h', List.all_append]
  simp only [List.all_cons, List.all_nil, Bool.and_true]
  rfl
set_option maxHeartbeats 1000000 in
theorem frameNames_bad (w : World) (hlay : Laid w) (s : ByteArray) (hs : s.size ≤ 12) (hn : Frm.named s.data.toList = false) (A : Option Addr) (c : Nat) (body : List UInt8) (hl : body.length ≤ 2000) (hc : body.length ≤ c) (hm : c ≤ maxLen) (hat : BytesAt w w.heap.size A body) :
    Calls Tryd.prog 9 #[.string s, .slice A body.length c] w fun e w' => e = .returned (.bool true) ∧ Below w.heap.size w w' := by
  have hr' : ¬ (2000 : Int) < (body.length : Int) := by omega
  have hd12 : decide ((s.size : Int) ≤ 12) = true := decide_eq_true (by omega)
  have hd12' : decide ((12 : Int) < (s.size : Int)) = false := decide_eq_false (by omega)
  have h12 : ¬ (12 : Int) < (s.size : Int) := by omega
  have h13 : (s.size : Int) ≤ 13 := by omega
  have HA := Lib.hid (frame_alive w hlay)
  have HPN := fun W => Lib.hid (put_unnamed s A body.length c W (by omega) hn)
  have HP := fun W h1 h2 h3 => Lib.hid (put_row ⟨#[97]⟩ A c w.heap.size body W h1 (by decide) (by decide) (by omega) h2 h3 hc hm)
  have HL := Lib.hid hlay
  have HAT := Lib.hid hat
  have hN := fun W => named_any s W (by omega)
  rw [hn] at hN
  have HN := Lib.hid hN
  have hend : (decide (0 < s.size) && s.data.toList.all Frm.letter) = false := by
    rw [← hn]; unfold Frm.named; rw [str_len]
    by_cases h0 : s.data.toList = []
    · have : s.size = 0 := by rw [← str_len, h0]; rfl
      simp [h0, this]
    · have : 0 < s.size := by rw [← str_len]; exact List.length_pos_iff.2 h0
      simp [h0, this, hs]
  have HEND := Lib.hid hend
  have HG := Lib.hid (Frm.get_names (cmd := s.data.toList) (body := body) (by rw [str_len]; exact hs) (by omega) hn)
  have hrow := Frm.names_row (cmd := s.data.toList) body (by rw [str_len]; exact hs)
  rw [str_len] at hrow
  have HROW := Lib.hid hrow
  clear hrow
  clear hlay hn hN hat hend
  by_cases h0 : s.size = 0
  · have h0' : ¬ (0 : Int) < (s.size : Int) := by omega
    go_enter Tryd.func9, Tryd.ntmps9
    go_wp2_with fail
    refine HA.out.mono ?_
    rintro e w1 ⟨rfl, hb1⟩
    have HB1 := Lib.hid hb1
    clear hb1
    go_wp2_with fail
    go_loop [5, 31] (fun g i => ∃ (k : Nat) (b : Bool), k ≤ s.size ∧ i = .int .i64 (k : Int) ∧ g = .bool b ∧ Hid (b = (decide (0 < s.size) && (s.data.toList.take k).all Frm.letter))) (fun g i => s.size - (intOf i).toNat)
    case atStart => exact ⟨0, false, by omega, rfl, rfl, Lib.hid (by simp [h0])⟩
    case round =>
      obtain ⟨k, b, hk, rfl, rfl, HBV⟩ := hrel
      by_cases hlt : k < s.size
      · omega
      · have hlt' : ¬ (k : Int) < (s.size : Int) := by omega
        have hks : s.size = k := by omega
        have hbf : b = false := by
          have h := HBV.out
          rwa [← hks, ← str_len, List.take_length, str_len, HEND.out] at h
        subst hbf
        clear HBV hks
        go_wp2_with fail
        refine (HPN _).out.mono ?_
        rintro e w2 ⟨rfl, hb2⟩
        have HB2 := Lib.hid (HB1.out.trans (hb2.mono HB1.out.size))
        clear hb2
        go_wp2_with fail
        refine (HN.out _).mono ?_
        rintro e w3 ⟨rfl, hb3⟩
        have HB3 := Lib.hid (HB2.out.trans (hb3.mono HB2.out.size))
        clear hb3
        go_wp2_with fail
        refine (HP _ (HL.out.below HB3.out) (HAT.out.below HB3.out) HB3.out.size).out.mono ?_
        rintro e w4 ⟨g, rfl, hg, hk4, hb4⟩
        have hk5 : Bk w4 g 5 (bytesArr (Frm.put [97] body)) := hk4
        have hpl : (Frm.put [97] body).length = 24 + body.length := Frm.put_len (by decide) body
        have HPL := Lib.hid hpl
        have HB4 := Lib.hid (HB3.out.trans (hb4.mono HB3.out.size))
        have c4 : w4.cell? ⟨g, 4, none⟩ = some (.int .u8 97) := by
          rw [hk5.cell]; simp only [bytesArr, List.getElem?_toArray, List.getElem?_map]; rfl
        have f4 : w4.frozen? ⟨g, 4, none⟩ = false := hk5.frozen 4
        have K5 := Lib.hid (show Bk (w4.setCell ⟨g, 4, none⟩ (.int .u8 0)) g 5 (bytesArr ((Frm.put [97] body).set 4 0)) from hk5.setByte 4 0)
        have hg0 : w.heap.size ≤ g := Nat.le_trans HB3.out.size hg
        have HB5 := Lib.hid (HB4.out.setCell (p := ⟨g, 4, none⟩) hg0 (.int .u8 0))
        have l4 : (4 : Int) < 24 + (body.length : Int) := by omega
        have l4n : 4 < 24 + body.length := by omega
        have l16 : ¬ (24 + body.length = 4) := by omega
        clear hk4 hk5 hb4 hpl HPN
        go_upto_region 20 with (fail)
        generalize w4.setCell ⟨g, 4, none⟩ (.int .u8 0) = w5 at *
        obtain ⟨w6, hcp, k6, hk6⟩ := copy_string w5 g 4 12 s _ K5.out hs (by rw [List.length_set, HPL.out]; omega)
        rw [HROW.out] at k6
        have K6 := Lib.hid k6
        have HB6 := Lib.hid (HB5.out.trans (hk6.below_from (B := w.heap.size) hg0 HB5.out.size))
        clear k6 hk6 c4 f4 K5 hg
        go_wp2_with fail
        have hat6 := K6.out.bytesAt K6.out.lt
        have hxl : (Frm.headOf s.data.toList body.length (Sha.check body).toNat ++ body).length = 24 + body.length := by rw [List.length_append, Frm.headOf_len (by rw [str_len]; exact hs)]
        generalize Frm.headOf s.data.toList body.length (Sha.check body).toNat ++ body = X at *
        have hG := get_any (some ⟨g, 0, none⟩) (24 + body.length) _ (24 + body.length) X w6 (HL.out.below HB6.out) hxl (Nat.le_refl _) (by unfold maxLen; omega) (by omega) hat6 (Nat.le_refl _)
        have hnl : (((24 + body.length : Nat) : Int)) = 24 + (body.length : Int) := by omega
        clear hat6 hxl K6
        rcases HG.out with ⟨c', hget, hne, hnm⟩ | hget
        · rw [hget] at hG
          have HGG := Lib.hid hG
          have hc12 := (named_len hnm).2.1
          have HNM := Lib.hid (fun W => named_any ⟨c'.toArray⟩ W (by show c'.toArray.size ≤ _; rw [List.size_toArray]; omega))
          rw [show (⟨c'.toArray⟩ : ByteArray).data.toList = c' from rfl, hnm] at HNM
          have hne' : ¬ c' = s.toList := fun e => hne (by rw [e, ByteArray.toList_eq])
          clear hG hget hne hnm
          refine HGG.out.mono ?_
          rintro e w7 ⟨v7, rfl, ho7, hb7⟩
          have HB7 := Lib.hid (HB6.out.trans (hb7.mono HB6.out.size))
          obtain ⟨A7, c7, rfl, _, _, hat7, _⟩ := ho7.at_
          have HAT7 := Lib.hid hat7
          clear hb7 ho7 hat7 HGG
          go_wp2_with fail
          refine (HNM.out _).mono ?_
          rintro e w8 ⟨rfl, hb8⟩
          have HB8 := Lib.hid (HB7.out.trans (hb8.mono HB7.out.size))
          have HS := Lib.hid (same_yes A7 A body.length body.length c7 c body w8 _ _ rfl rfl (by omega) (HAT7.out.below hb8) (HAT.out.below HB8.out))
          clear hb8
          go_wp2_with fail
          refine HS.out.mono ?_
          rintro e w9 ⟨rfl, hb9⟩
          have HB9 := Lib.hid (HB8.out.trans (hb9.mono HB8.out.size))
          clear hb9
          go_wp2_with fail
          go_ret
          exact ⟨rfl, HB9.out⟩
        · rw [hget] at hG
          have HGG := Lib.hid hG
          clear hG hget
          refine HGG.out.mono ?_
          rintro e w7 ⟨v7, rfl, ho7, hb7⟩
          have HB7 := Lib.hid (HB6.out.trans (hb7.mono HB6.out.size))
          obtain ⟨A7, c7, rfl, _, _, _, _⟩ := own_form ho7
          clear hb7 ho7 HGG
          go_wp2_with fail
          go_ret
          exact ⟨rfl, HB7.out⟩
  · have h0s : 0 < s.size := by omega
    have h0' : (0 : Int) < (s.size : Int) := by omega
    go_enter Tryd.func9, Tryd.ntmps9
    go_wp2_with fail
    refine HA.out.mono ?_
    rintro e w1 ⟨rfl, hb1⟩
    have HB1 := Lib.hid hb1
    clear hb1
    go_wp2_with fail
    go_loop [5, 31] (fun g i => ∃ (k : Nat) (b : Bool), k ≤ s.size ∧ i = .int .i64 (k : Int) ∧ g = .bool b ∧ Hid (b = (decide (0 < s.size) && (s.data.toList.take k).all Frm.letter))) (fun g i => s.size - (intOf i).toNat)
    case atStart => exact ⟨0, true, by omega, rfl, rfl, Lib.hid (by simp; omega)⟩
    case round =>
      obtain ⟨k, b, hk, rfl, rfl, HBV⟩ := hrel
      by_cases hlt : k < s.size
      · have hlt' : (k : Int) < (s.size : Int) := by omega
        have HT := Lib.hid (take_all_next s hlt)
        have HLT := Lib.hid (show Frm.letter s[k] = decide (97 ≤ s[k].toNat ∧ s[k].toNat ≤ 122) from rfl)
        cases b with
        | false =>
          go_wp2_with fail
          go_round
          case rel => exact ⟨k + 1, false, by omega, by go_num, rfl, Lib.hid (by rw [HT.out, ← Bool.and_assoc, ← HBV.out]; rfl)⟩
          case measure => simp [intOf]; omega
        | true =>
          by_cases g1 : 97 ≤ s[k].toNat
          · have e1 : (97 : Int) ≤ (s[k].toNat : Int) := by omega
            go_wp2_with fail
            go_round
            case rel => exact ⟨k + 1, decide ((s[k].toNat : Int) ≤ 122), by omega, by go_num, rfl, Lib.hid (by rw [HT.out, ← Bool.and_assoc, ← HBV.out, HLT.out, Bool.true_and]; exact decide_eq_decide.2 (by omega))⟩
            case measure => simp [intOf]; omega
          · have e1 : ¬ (97 : Int) ≤ (s[k].toNat : Int) := by omega
            go_wp2_with fail
            go_round
            case rel => exact ⟨k + 1, false, by omega, by go_num, rfl, Lib.hid (by rw [HT.out, ← Bool.and_assoc, ← HBV.out, HLT.out, Bool.true_and]; exact (decide_eq_false (by omega)).symm)⟩
            case measure => simp [intOf]; omega
      · have hlt' : ¬ (k : Int) < (s.size : Int) := by omega
        have hks : s.size = k := by omega
        have hbf : b = false := by
          have h := HBV.out
          rwa [← hks, ← str_len, List.take_length, str_len, HEND.out] at h
        subst hbf
        clear HBV hks
        go_wp2_with fail
        refine (HPN _).out.mono ?_
        rintro e w2 ⟨rfl, hb2⟩
        have HB2 := Lib.hid (HB1.out.trans (hb2.mono HB1.out.size))
        clear hb2
        go_wp2_with fail
        refine (HN.out _).mono ?_
        rintro e w3 ⟨rfl, hb3⟩
        have HB3 := Lib.hid (HB2.out.trans (hb3.mono HB2.out.size))
        clear hb3
        go_wp2_with fail
        refine (HP _ (HL.out.below HB3.out) (HAT.out.below HB3.out) HB3.out.size).out.mono ?_
        rintro e w4 ⟨g, rfl, hg, hk4, hb4⟩
        have hk5 : Bk w4 g 5 (bytesArr (Frm.put [97] body)) := hk4
        have hpl : (Frm.put [97] body).length = 24 + body.length := Frm.put_len (by decide) body
        have HPL := Lib.hid hpl
        have HB4 := Lib.hid (HB3.out.trans (hb4.mono HB3.out.size))
        have c4 : w4.cell? ⟨g, 4, none⟩ = some (.int .u8 97) := by
          rw [hk5.cell]; simp only [bytesArr, List.getElem?_toArray, List.getElem?_map]; rfl
        have f4 : w4.frozen? ⟨g, 4, none⟩ = false := hk5.frozen 4
        have K5 := Lib.hid (show Bk (w4.setCell ⟨g, 4, none⟩ (.int .u8 0)) g 5 (bytesArr ((Frm.put [97] body).set 4 0)) from hk5.setByte 4 0)
        have hg0 : w.heap.size ≤ g := Nat.le_trans HB3.out.size hg
        have HB5 := Lib.hid (HB4.out.setCell (p := ⟨g, 4, none⟩) hg0 (.int .u8 0))
        have l4 : (4 : Int) < 24 + (body.length : Int) := by omega
        have l4n : 4 < 24 + body.length := by omega
        have l16 : ¬ (24 + body.length = 4) := by omega
        clear hk4 hk5 hb4 hpl HPN
        go_upto_region 20 with (fail)
        generalize w4.setCell ⟨g, 4, none⟩ (.int .u8 0) = w5 at *
        obtain ⟨w6, hcp, k6, hk6⟩ := copy_string w5 g 4 12 s _ K5.out hs (by rw [List.length_set, HPL.out]; omega)
        rw [HROW.out] at k6
        have K6 := Lib.hid k6
        have HB6 := Lib.hid (HB5.out.trans (hk6.below_from (B := w.heap.size) hg0 HB5.out.size))
        clear k6 hk6 c4 f4 K5 hg
        go_wp2_with fail
        have hat6 := K6.out.bytesAt K6.out.lt
        have hxl : (Frm.headOf s.data.toList body.length (Sha.check body).toNat ++ body).length = 24 + body.length := by rw [List.length_append, Frm.headOf_len (by rw [str_len]; exact hs)]
        generalize Frm.headOf s.data.toList body.length (Sha.check body).toNat ++ body = X at *
        have hG := get_any (some ⟨g, 0, none⟩) (24 + body.length) _ (24 + body.length) X w6 (HL.out.below HB6.out) hxl (Nat.le_refl _) (by unfold maxLen; omega) (by omega) hat6 (Nat.le_refl _)
        have hnl : (((24 + body.length : Nat) : Int)) = 24 + (body.length : Int) := by omega
        clear hat6 hxl K6
        rcases HG.out with ⟨c', hget, hne, hnm⟩ | hget
        · rw [hget] at hG
          have HGG := Lib.hid hG
          have hc12 := (named_len hnm).2.1
          have HNM := Lib.hid (fun W => named_any ⟨c'.toArray⟩ W (by show c'.toArray.size ≤ _; rw [List.size_toArray]; omega))
          rw [show (⟨c'.toArray⟩ : ByteArray).data.toList = c' from rfl, hnm] at HNM
          have hne' : ¬ c' = s.toList := fun e => hne (by rw [e, ByteArray.toList_eq])
          clear hG hget hne hnm
          refine HGG.out.mono ?_
          rintro e w7 ⟨v7, rfl, ho7, hb7⟩
          have HB7 := Lib.hid (HB6.out.trans (hb7.mono HB6.out.size))
          obtain ⟨A7, c7, rfl, _, _, hat7, _⟩ := ho7.at_
          have HAT7 := Lib.hid hat7
          clear hb7 ho7 hat7 HGG
          go_wp2_with fail
          refine (HNM.out _).mono ?_
          rintro e w8 ⟨rfl, hb8⟩
          have HB8 := Lib.hid (HB7.out.trans (hb8.mono HB7.out.size))
          have HS := Lib.hid (same_yes A7 A body.length body.length c7 c body w8 _ _ rfl rfl (by omega) (HAT7.out.below hb8) (HAT.out.below HB8.out))
          clear hb8
          go_wp2_with fail
          refine HS.out.mono ?_
          rintro e w9 ⟨rfl, hb9⟩
          have HB9 := Lib.hid (HB8.out.trans (hb9.mono HB8.out.size))
          clear hb9
          go_wp2_with fail
          go_ret
          exact ⟨rfl, HB9.out⟩
        · rw [hget] at hG
          have HGG := Lib.hid hG
          clear hG hget
          refine HGG.out.mono ?_
          rintro e w7 ⟨v7, rfl, ho7, hb7⟩
          have HB7 := Lib.hid (HB6.out.trans (hb7.mono HB6.out.size))
          obtain ⟨A7, c7, rfl, _, _, _, _⟩ := own_form ho7
          clear hb7 ho7 HGG
          go_wp2_with fail
          go_ret
          exact ⟨rfl, HB7.out⟩
theorem frameNames_walk (w : World) (hlay : Laid w) (s : ByteArray) (hs : s.size ≤ 9223372036854775807) (A : Option Addr) (n c : Nat) (body : List UInt8) (hl : body.length = n) (hc : n ≤ c) (hm : c ≤ maxLen) (hat : BytesAt w w.heap.size A body) :
    Calls Tryd.prog 9 #[.string s, .slice A n c] w fun e w' => e = .returned (.bool true) ∧ Below w.heap.size w w' := by
  subst hl
  by_cases hb : body.length ≤ 2000
  · cases hn : Frm.named s.data.toList with
    | true => exact frameNames_good w hlay s hs hn A c body hb hc hm hat
    | false =>
      by_cases h12 : s.size ≤ 12
      · exact frameNames_bad w hlay s h12 hn A c body hb hc hm hat
      · exact frameNames_long w hlay s hs A _ c hb (by omega)
  · exact frameNames_great w hlay s A _ c (by omega)
end Go.Proofs.YtaiblalebeldgaaDoor
