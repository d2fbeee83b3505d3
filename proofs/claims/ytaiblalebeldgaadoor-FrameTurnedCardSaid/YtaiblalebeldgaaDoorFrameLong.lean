/- A body that is told too long is refused with its head. -/
import Derived.Test.YtaiblalebeldgaaDoorFrameNames
import Derived.Test.YtaiblalebeldgaaDoorFrameBack
namespace Go.Proofs.YtaiblalebeldgaaDoor.Frm
def tx : List UInt8 := [116, 120]
theorem tx_named : named tx = true := by decide
theorem tx_put : put tx [] = headOf tx 0 3806393949 := by decide +kernel
theorem tx_row (n : Nat) (hn : n < 4294967296) : ((((headOf tx 0 3806393949).set 16 (UInt8.ofNat n)).set 17 (UInt8.ofNat (n / 256))).set 18 (UInt8.ofNat (n / 65536))).set 19 (UInt8.ofNat (n / 16777216)) = headOf tx n 3806393949 := by
  unfold headOf
  rw [le4 n hn, le4 0 (by decide)]
  rfl
theorem get_long (n : Nat) (hn : n < 4294967296) (rest : List UInt8) :
    get (headOf tx n 3806393949 ++ rest) = if 2048 < n then ([], [], 0, 5) else if rest.length < n then ([], [], 0, 4) else if (Sha.check (rest.take n)).toNat ≠ 3806393949 then ([], [], 24 + n, 7) else (tx, rest.take n, 24 + n, 0) := by
  have hl := headOf_len (cmd := tx) (by decide) n 3806393949
  have hh := head_of tx_named n 3806393949 hn (by decide)
  unfold get
  rw [if_neg (by rw [List.length_append, hl]; omega), List.take_left' hl, hh]
  by_cases h : 2048 < n
  · simp only [if_pos h]; rfl
  · simp only [if_neg h]
    rw [if_neg (by simp), List.length_append, hl, Nat.add_sub_cancel_left, List.drop_left' hl, if_neg (show ¬ tx = [] by decide)]
end Go.Proofs.YtaiblalebeldgaaDoor.Frm
namespace Go.Proofs.YtaiblalebeldgaaDoor
open Go.RowKit Go.Deep
set_option linter.unusedVariables false
set_option linter.unusedSimpArgs false
set_option maxRecDepth 100000
attribute [local go_sem ↓] Go.wp_at_zero Go.wp_at_succ
theorem bk_byte {w : World} {g t : Nat} {l : List UInt8} (h : Bk w g t (bytesArr l)) (i : Nat) (x : UInt8) (hx : l[i]? = some x) (z : Int) (hz : z = (x.toNat : Int)) : w.cell? ⟨g, i, none⟩ = some (.int .u8 z) := by
  rw [h.cell]; simp only [bytesArr, List.getElem?_toArray, List.getElem?_map, hx]; rw [hz]; rfl
set_option maxHeartbeats 1000000 in
theorem frameLong_walk (w : World) (hlay : Laid w) (z : Int) (hz : (Lit.int .u32 z).wf = true) (A : Option Addr) (n c : Nat) (rest : List UInt8) (hl : rest.length = n) (hc : n ≤ c) (hm : c ≤ maxLen) (hat : BytesAt w w.heap.size A rest) :
    Calls Tryd.prog 10 #[.int .u32 z, .slice A n c] w fun e w' => e = .returned (.bool true) ∧ Below w.heap.size w w' := by
  subst hl
  have HA := Lib.hid (frame_alive w hlay)
  have HL := Lib.hid hlay
  have HAT := Lib.hid hat
  by_cases hr : 4000 < rest.length
  · have hr' : (4000 : Int) < (rest.length : Int) := by omega
    clear hlay hat
    go_enter Tryd.func10, Tryd.ntmps10
    go_wp2_with fail
    refine HA.out.mono ?_
    rintro e w1 ⟨rfl, hb1⟩
    go_wp2_with fail
    go_ret
    exact ⟨rfl, hb1⟩
  · have hr' : ¬ (4000 : Int) < (rest.length : Int) := by omega
    have hz := wf_u32 hz
    obtain ⟨m, rfl⟩ : ∃ m : Nat, z = (m : Int) := ⟨z.toNat, by omega⟩
    have hm32 : m < 4294967296 := by omega
    obtain ⟨hz0, hz1⟩ := hz
    have HP := fun (W : World) (h1 : Laid W) => Lib.hid (show Calls Tryd.prog 12 #[.string ⟨#[116, 120]⟩, .slice none 0 0] W fun e w' => ∃ g, e = .returned (.tuple #[.slice (some ⟨g, 0, none⟩) 24 24, .int .i64 0]) ∧ W.heap.size ≤ g ∧ Bk w' g 5 (bytesArr (Frm.put Frm.tx [])) ∧ Below W.heap.size W w' from put_row ⟨#[116, 120]⟩ none 0 0 [] W h1 (by decide) (by decide) (by simp) (fun i hi => by simp at hi) (Nat.zero_le _) (Nat.le_refl _) (by simp [maxLen]))
    obtain ⟨i0, hi, hi0, hi1, hi2⟩ := info_parts byte_info
    have Hi := Lib.hid hi
    have Hz := Lib.hid hi0
    have Hz1 := Lib.hid hi1
    have Hz2 := Lib.hid hi2
    clear hlay hat hi hi0 hi1 hi2
    go_enter Tryd.func10, Tryd.ntmps10
    go_wp2_with fail
    refine HA.out.mono ?_
    rintro e w1 ⟨rfl, hb1⟩
    have HB1 := Lib.hid hb1
    clear hb1
    go_wp2_with fail
    refine (HP _ (HL.out.below HB1.out)).out.mono ?_
    rintro e w2 ⟨g, rfl, hg, hk2, hb2⟩
    rw [Frm.tx_put] at hk2
    have HB2 := Lib.hid (HB1.out.trans (hb2.mono HB1.out.size))
    have c16 := bk_byte hk2 16 0 rfl 0 rfl
    have c17 := bk_byte hk2 17 0 rfl 0 rfl
    have c18 := bk_byte hk2 18 0 rfl 0 rfl
    have c19 := bk_byte hk2 19 0 rfl 0 rfl
    have fr := hk2.frozen
    have hg0 : w.heap.size ≤ g := Nat.le_trans HB1.out.size hg
    have HK2 := Lib.hid hk2
    clear hk2 hb2 hg HP HA
    go_wp2_with fail
    refine wp_loop_rounds 5 ?_
    rw [rounds_succ]
    go_wp2_with fail
    rw [rounds_succ]
    go_wp2_with fail
    rw [rounds_succ]
    go_wp2_with fail
    rw [rounds_succ]
    go_wp2_with fail
    rw [rounds_succ]
    go_upto_region 13 with (fail)
    obtain ⟨w3, hw3⟩ : ∃ w3, w3 = (((w2.setCell ⟨g, 16, none⟩ (.int .u8 ((m : Int) % 256))).setCell ⟨g, 17, none⟩ (.int .u8 ((m : Int) / 256 % 256))).setCell ⟨g, 18, none⟩ (.int .u8 ((m : Int) / 65536 % 256))).setCell ⟨g, 19, none⟩ (.int .u8 ((m : Int) / 16777216)) := ⟨_, rfl⟩
    rw [← hw3]
    have k3 : Bk w3 g 5 (bytesArr (Frm.headOf Frm.tx m 3806393949)) := by
      rw [hw3, ← Frm.tx_row m hm32, ← byte_of_nat m _ (show (m : Int) % 256 = ((m % 256 : Nat) : Int) by omega), ← byte_of_nat (m / 256) _ (show (m : Int) / 256 % 256 = ((m / 256 % 256 : Nat) : Int) by omega), ← byte_of_nat (m / 65536) _ (show (m : Int) / 65536 % 256 = ((m / 65536 % 256 : Nat) : Int) by omega), ← byte_of_nat (m / 16777216) _ (show (m : Int) / 16777216 = ((m / 16777216 % 256 : Nat) : Int) by omega)]
      exact (((HK2.out.setByte 16 _).setByte 17 _).setByte 18 _).setByte 19 _
    have kp3 : Kp (fun i => i = g) w2 w3 := by
      rw [hw3]
      exact Kp.setCell (S := fun i => i = g) (Kp.setCell (S := fun i => i = g) (Kp.setCell (S := fun i => i = g) (Kp.setCell (S := fun i => i = g) (Kp.refl _ w2) (fun _ => rfl) _) (fun _ => rfl) _) (fun _ => rfl) _) (fun _ => rfl) _
    have HB3 := Lib.hid (HB2.out.trans (kp3.below_from (B := w.heap.size) hg0 HB2.out.size))
    have hxl : (Frm.headOf Frm.tx m 3806393949).length = 24 := Frm.headOf_len (by decide) _ _
    have hh := Frm.head_of Frm.tx_named m 3806393949 hm32 (by decide)
    have hgl := Frm.get_long m hm32 rest
    generalize Frm.headOf Frm.tx m 3806393949 = X at *
    have HGL := Lib.hid hgl
    have HXL := Lib.hid hxl
    have HK3 := Lib.hid k3
    have hD := head_yes g 0 24 _ X w3 hxl (k3.bytesAt k3.lt) (Nat.le_refl _) (Nat.le_refl _)
    rw [hh] at hD
    obtain ⟨cm, ln, sm, er, hcase⟩ : ∃ (cm : List UInt8) (ln sm : Nat) (er : Int), ((if 2048 < m then ((⟨[], 0, 0⟩, 5) : Frm.Head × Int) else (⟨Frm.tx, m, 3806393949⟩, 0)) = (⟨cm, ln, sm⟩, er)) ∧ ((2048 < m ∧ cm = [] ∧ ln = 0 ∧ sm = 0 ∧ er = 5) ∨ (¬ 2048 < m ∧ cm = Frm.tx ∧ ln = m ∧ er = 0)) := by
      by_cases h : 2048 < m
      · exact ⟨_, _, _, _, if_pos h, .inl ⟨h, rfl, rfl, rfl, rfl⟩⟩
      · exact ⟨_, _, _, _, if_neg h, .inr ⟨h, rfl, rfl, rfl⟩⟩
    rw [hcase.1] at hD
    unfold headV at hD
    dsimp only at hD
    have HC := Lib.hid hcase.2
    have HD := Lib.hid hD
    clear hw3 k3 kp3 hxl hh hgl hD hcase c16 c17 c18 c19 fr HK2
    go_wp2_with fail
    refine HD.out.mono ?_
    rintro e w4 ⟨rfl, hb4⟩
    have HB4 := Lib.hid (HB3.out.trans (hb4.mono HB3.out.size))
    have HK4 := Lib.hid (HK3.out.below hb4 HK3.out.lt)
    clear hb4 HK3 HD
    have hown : OwnB (w4.alloc (.cells #[.string ⟨cm.toArray⟩, .int .i64 (ln : Int), .int .u32 (sm : Int)] 35)) w.heap.size (.slice (some ⟨g, 0, none⟩) 24 24) X := by
      have := (HK4.out.alloc (.cells #[.string ⟨cm.toArray⟩, .int .i64 (ln : Int), .int .u32 (sm : Int)] 35)).own (base := w.heap.size) hg0 (by rw [HXL.out]; simp [maxLen])
      rwa [HXL.out] at this
    have hown' : (w4.alloc (.cells #[.string ⟨cm.toArray⟩, .int .i64 (ln : Int), .int .u32 (sm : Int)] 35)).ownsRow w.heap.size 5 1 (.slice (some ⟨g, 0, none⟩) 24 24) 24 (X.map byteV) := by
      have h := hown; unfold OwnB at h; rwa [HXL.out] at h
    have HO := Lib.hid hown'
    have hz4 := HB4.out.size
    have HB4a := Lib.hid (HB4.out.alloc hz4 (.cells #[.string ⟨cm.toArray⟩, .int .i64 (ln : Int), .int .u32 (sm : Int)] 35))
    have HS := Lib.hid (BytesAt.src (HAT.out.below HB4a.out))
    have hgw4 : g < w4.heap.size := HK4.out.lt
    have HKH := Lib.hid (Bk.new w4 35 #[.string ⟨cm.toArray⟩, .int .i64 (ln : Int), .int .u32 (sm : Int)])
    clear hown hown'
    go_wp2_with (at_builtin; refine wpList_app _ rfl (.tmp 45) (.tmp 46) _ rfl w.heap.size 5 i0 _ 1 1 Tryd.underlying22 Hi.out Hz.out Hz1.out Hz2.out rfl (by decide) (.slice (some ⟨g, 0, none⟩) 24 24) 24 (X.map byteV) rfl HO.out A rest.length c (rest.map byteV) rfl (by rw [List.length_map, Nat.mul_one]) HS.out (oneCell_bytes _) (by unfold maxLen; omega) (by omega) (by simp; omega) ?_; intro v5 w5 hrow5 hg5 hat5)
    have hrow5' : OwnB w5 w.heap.size v5 (X ++ rest) := by
      unfold OwnB
      rw [List.length_append, List.map_append, HXL.out]
      exact hrow5
    have hz4a : (w4.alloc (.cells #[.string ⟨cm.toArray⟩, .int .i64 (ln : Int), .int .u32 (sm : Int)] 35)).heap.size = w4.heap.size + 1 := by simp
    have b45 : Below w.heap.size (w4.alloc (.cells #[.string ⟨cm.toArray⟩, .int .i64 (ln : Int), .int .u32 (sm : Int)] 35)) w5 := own_low hg5 HO.out (Nat.le_refl _) (by rw [hz4a]; omega)
    have HB5 := Lib.hid (HB4a.out.trans (b45.mono (Nat.le_refl _)))
    have hk5 : Bk w5 w4.heap.size 35 #[.string ⟨cm.toArray⟩, .int .i64 (ln : Int), .int .u32 (sm : Int)] :=
      (hg5.block w4.heap.size (by rw [hz4a]; omega) (fun e => by simp [Value.ownBlock] at e; omega)).trans HKH.out
    obtain ⟨A5, c5, rfl, hc5, hm5, hat5', _⟩ := hrow5'.at_
    have hl5 : (X ++ rest).length ≤ 140737488351232 := by rw [List.length_append, HXL.out]; omega
    have hG := get_any A5 c5 _ _ (X ++ rest) w5 (HL.out.below HB5.out) rfl hc5 hm5 hl5 hat5' (Nat.le_refl _)
    rw [HGL.out] at hG
    have HG := Lib.hid hG
    have HK5 := Lib.hid hk5
    clear hG hk5 hrow5 hrow5' hg5 hat5 hat5' b45 hz4a HO HS HKH HK4 HGL
    refine HG.out.mono ?_
    rintro e w6 hout
    rcases HC.out with ⟨hm1, rfl, rfl, rfl, rfl⟩ | ⟨hm1, rfl, hlm, rfl⟩
    · rw [if_pos hm1] at hout
      obtain ⟨v6, rfl, ho6, hb6⟩ := hout
      have HB6 := Lib.hid (HB5.out.trans (hb6.mono HB5.out.size))
      have hk6 := HK5.out.below hb6 HK5.out.lt
      have h0 : w6.cell? ⟨w4.heap.size, 0, none⟩ = some (.string ⟨#[]⟩) := hk6.cell 0
      have h1 : w6.cell? ⟨w4.heap.size, 1, none⟩ = some (.int .i64 0) := hk6.cell 1
      have h2 : w6.cell? ⟨w4.heap.size, 2, none⟩ = some (.int .u32 0) := hk6.cell 2
      obtain ⟨A6, c6, rfl, _, _, _, _⟩ := own_form ho6
      have hm1' : (2048 : Int) < (m : Int) := by omega
      clear ho6 hb6 hk6 HG
      go_wp2_with fail
      go_ret
      exact ⟨rfl, HB6.out⟩
    · obtain rfl : m = ln := hlm.symm
      rw [if_neg hm1] at hout
      have hm1' : ¬ (2048 : Int) < (m : Int) := by omega
      by_cases hs : rest.length < m
      · rw [if_pos hs] at hout
        obtain ⟨v6, rfl, ho6, hb6⟩ := hout
        have HB6 := Lib.hid (HB5.out.trans (hb6.mono HB5.out.size))
        have hk6 := HK5.out.below hb6 HK5.out.lt
        have h0 : w6.cell? ⟨w4.heap.size, 0, none⟩ = some (.string ⟨#[116, 120]⟩) := hk6.cell 0
        have h1 : w6.cell? ⟨w4.heap.size, 1, none⟩ = some (.int .i64 (m : Int)) := hk6.cell 1
        obtain ⟨A6, c6, rfl, _, _, _, _⟩ := own_form ho6
        have hs' : (rest.length : Int) < (m : Int) := by omega
        clear ho6 hb6 hk6 HG
        go_wp2_with fail
        go_ret
        exact ⟨rfl, HB6.out⟩
      · rw [if_neg hs] at hout
        have hs' : ¬ (rest.length : Int) < (m : Int) := by omega
        by_cases hck : (Sha.check (rest.take m)).toNat ≠ 3806393949
        · rw [if_pos hck] at hout
          obtain ⟨v6, rfl, ho6, hb6⟩ := hout
          have HB6 := Lib.hid (HB5.out.trans (hb6.mono HB5.out.size))
          have hk6 := HK5.out.below hb6 HK5.out.lt
          have h0 : w6.cell? ⟨w4.heap.size, 0, none⟩ = some (.string ⟨#[116, 120]⟩) := hk6.cell 0
          have h1 : w6.cell? ⟨w4.heap.size, 1, none⟩ = some (.int .i64 (m : Int)) := hk6.cell 1
          obtain ⟨A6, c6, rfl, _, _, _, _⟩ := own_form ho6
          clear ho6 hb6 hk6 HG hck
          go_wp2_with fail
          go_ret
          exact ⟨rfl, HB6.out⟩
        · rw [if_neg hck] at hout
          obtain ⟨v6, rfl, ho6, hb6⟩ := hout
          have HB6 := Lib.hid (HB5.out.trans (hb6.mono HB5.out.size))
          have hk6 := HK5.out.below hb6 HK5.out.lt
          have h0 : w6.cell? ⟨w4.heap.size, 0, none⟩ = some (.string ⟨#[116, 120]⟩) := hk6.cell 0
          have h1 : w6.cell? ⟨w4.heap.size, 1, none⟩ = some (.int .i64 (m : Int)) := hk6.cell 1
          obtain ⟨A6, c6, rfl, _, _, _, _⟩ := own_form ho6
          clear ho6 hb6 hk6 HG hck
          go_wp2_with fail
          go_ret
          exact ⟨rfl, HB6.out⟩
end Go.Proofs.YtaiblalebeldgaaDoor
