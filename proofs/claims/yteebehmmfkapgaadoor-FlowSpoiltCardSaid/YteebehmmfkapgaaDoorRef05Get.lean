/- The document's frames: what is read of bytes. -/
import Derived.Test.YteebehmmfkapgaaDoorRef05Head2
import Derived.Test.YteebehmmfkapgaaDoorFrameOut
namespace Go.Proofs.YteebehmmfkapgaaDoor
open Go.RowKit Go.Deep
set_option linter.unusedVariables false
set_option linter.unusedSimpArgs false
set_option maxRecDepth 100000
attribute [local go_sem ↓] Go.wp_at_zero Go.wp_at_succ
theorem rg_short (A : Option Addr) (n c : Nat) (l : List UInt8) (w : World) (hl : l.length = n) (h : n < 24) :
    Calls Tryd.prog 24 #[.slice A n c] w fun e w' => GetOut w w' (Frm.get l) e := by
  have HF := Lib.hid (show Frm.get l = ([], [], 0, 4) by unfold Frm.get; rw [if_pos (by omega)])
  have h' : (n : Int) < 24 := by omega
  clear hl h
  go_enter Tryd.func24, Tryd.ntmps24
  go_wp2_with fail
  refine bodyPost_ret (results_tmp4 rfl _ _ _) rfl ?_
  exact GetOut.nil HF.out (Below.refl _ _)
set_option maxHeartbeats 1000000 in
theorem rg_head (q off c B n : Nat) (l : List UInt8) (w : World) (hl : l.length = n) (h24 : 24 ≤ n) (hc : n ≤ c) (hm : c ≤ maxLen) (hn : n ≤ 140737488351232) (h : BytesAt w B (some ⟨q, off, none⟩) l) (hB : B ≤ w.heap.size) :
    Calls Tryd.prog 24 #[.slice (some ⟨q, off, none⟩) n c] w fun e w' => GetOut w w' (Frm.get l) e := by
  obtain ⟨hd, hhd⟩ : ∃ hd, hd = Frm.head (l.take 24) := ⟨_, rfl⟩
  have HHD := Lib.hid hhd
  have l24 : (l.take 24).length = 24 := by rw [List.length_take]; omega
  have HC := Lib.hid (rhead_yes q off c B (l.take 24) w l24 (BytesAt.take h 24) hB (by omega))
  rw [← hhd] at HC
  unfold headV at HC
  obtain ⟨o24, ho24⟩ : ∃ o24, o24 = if c = 24 then off else off + 24 := ⟨_, rfl⟩
  have hat24 : BytesAt w B (some ⟨q, o24, none⟩) (l.drop 24) := by
    by_cases e : c = 24
    · have : l.drop 24 = [] := List.drop_of_length_le (by omega)
      rw [this]; exact fun i hi => by simp at hi
    · rw [ho24, if_neg e]; exact h.drop 24
  have HAT := Lib.hid hat24
  unfold maxLen at hm
  have HLN := Lib.hid hl
  have HG := Lib.hid (show Frm.get l = _ by unfold Frm.get; rw [if_neg (by omega), ← hhd])
  have h24' : ¬ (n : Int) < 24 := by omega
  have hif : (if c = 24 then some (⟨q, off, none⟩ : Addr) else some ⟨q, off + 24, none⟩) = some ⟨q, o24, none⟩ := by rw [ho24]; split <;> rfl
  obtain ⟨i0, hi, hz0, hz1', hz2⟩ := info_parts byte_info
  have Hi := Lib.hid hi
  have Hz := Lib.hid hz0
  have Hz1 := Lib.hid hz1'
  have Hz2 := Lib.hid hz2
  clear hi hz0 hz1' hz2
  clear hhd l24 hat24 hl h ho24
  obtain ⟨⟨cmd, len, sum⟩, err⟩ := hd
  simp only at HC HG
  go_enter Tryd.func24, Tryd.ntmps24
  go_wp2_with fail
  refine HC.out.mono ?_
  rintro e w1 ⟨rfl, hb1⟩
  have HB1 := Lib.hid hb1
  have hz1 := hb1.size
  clear hb1 HC
  by_cases he : err = 0
  · subst he
    obtain ⟨hs, hhs⟩ : ∃ hs : ByteArray, hs = ⟨cmd.toArray⟩ := ⟨_, rfl⟩
    have hsd : hs.data.toList = cmd := by rw [hhs]
    have hse := str_empty hs
    rw [hsd] at hse
    rw [← hhs]
    have HHS := Lib.hid hhs
    clear hhs hsd
    have hnc : n ≤ 140737488351232 := hn
    by_cases hsh : n - 24 < len
    · have hsh' : (n : Int) - 24 < (len : Int) := by omega
      have HF := Lib.hid (show Frm.get l = ([], [], 0, 4) by rw [HG.out]; simp only [ne_eq, not_true_eq_false, if_false]; rw [if_pos (by rw [HLN.out]; exact hsh)])
      clear hsh hse
      go_wp2_with fail
      refine bodyPost_ret (results_tmp4 rfl _ _ _) rfl ?_
      exact GetOut.nil HF.out (HB1.out.alloc hz1 _)
    · have hsh' : ¬ (n : Int) - 24 < (len : Int) := by omega
      have hlen : len ≤ n - 24 := by omega
      have hlen2 : (len : Int) ≤ 140737488351232 := by omega
      have hlc : (24 : Int) + (len : Int) ≤ (c : Int) := by omega
      obtain ⟨bd, hbd⟩ : ∃ bd, bd = (l.drop 24).take len := ⟨_, rfl⟩
      have hbl : bd.length = len := by rw [hbd, List.length_take, List.length_drop, HLN.out]; omega
      have hbat : BytesAt w B (some ⟨q, o24, none⟩) bd := by rw [hbd]; exact BytesAt.take HAT.out len
      have HG2 := Lib.hid (show Frm.get l = if cmd = [] then ([], [], 24 + len, 8) else if (Sha.check bd).toNat ≠ sum then ([], [], 24 + len, 7) else (cmd, bd, 24 + len, 0) by
        rw [HG.out]; simp only [ne_eq, not_true_eq_false, if_false]; rw [if_neg (by rw [HLN.out]; exact hsh), ← hbd])
      have HBAT := Lib.hid hbat
      have HBL := Lib.hid hbl
      obtain ⟨w2, hw2⟩ : ∃ w2, w2 = w1.alloc (.cells #[.string hs, .int .i64 (len : Int), .int .u32 (sum : Int)] 79) := ⟨_, rfl⟩
      have k2 : Bk w2 w1.heap.size 79 #[.string hs, .int .i64 (len : Int), .int .u32 (sum : Int)] := by rw [hw2]; exact Bk.new _ _ _
      have b2 : Below w.heap.size w w2 := by rw [hw2]; exact HB1.out.alloc hz1 _
      have HK2 := Lib.hid k2
      have HB2 := Lib.hid b2
      have HW2 := Lib.hid hw2
      clear hsh hbd hbat hbl k2 b2 hw2
      have hl24 : 24 + len - 24 = len := by omega
      go_upto_region 6 with (fail)
      rw [← HW2.out]
      have a1 : w2.cell? ⟨w1.heap.size, 1, none⟩ = some (.int .i64 (len : Int)) := (HK2.out.cell 1).trans rfl
      go_upto_region 9 with (fail)
      have hown : OwnB (w2.alloc (.cells #[] 5)) w2.heap.size (.slice (some ⟨w2.heap.size, 0, none⟩) 0 0) [] := Bk.own (bs := []) (Bk.new _ _ _) (Nat.le_refl _) (by simp [maxLen])
      have HO := Lib.hid hown
      have HS := Lib.hid (BytesAt.src (HBAT.out.below (((HB2.out.mono hB).trans ((Joins.below_alloc1 w2 (.cells #[] 5)).mono (by have := HB2.out.size; omega))))))
      clear hown a1
      go_upto_region 10 with (at_builtin; refine wpList_app _ rfl (.tmp 31) (.tmp 34) _ rfl w2.heap.size 5 i0 _ 1 1 Tryd.underlying28 Hi.out Hz.out Hz1.out Hz2.out rfl (by decide) (.slice (some ⟨w2.heap.size, 0, none⟩) 0 0) 0 [] rfl HO.out (some ⟨q, o24, none⟩) (24 + len - 24) (c - 24) (bd.map byteV) rfl (by rw [List.length_map, HBL.out, Nat.mul_one]; omega) HS.out (oneCell_bytes _) (by unfold maxLen; omega) (by omega) (by simp) ?_; intro v3 w3 hrow3 hg3 _)
      rw [hl24] at hrow3
      have hown3 : OwnB w3 w2.heap.size v3 bd := by
        unfold OwnB
        rw [HBL.out]
        simpa using hrow3
      have hz2a : (w2.alloc (.cells #[] 5)).heap.size = w2.heap.size + 1 := by rw [World.size_alloc]
      have b23 : Below w2.heap.size w2 w3 := (Joins.below_alloc1 _ _).trans (own_low hg3 HO.out (Nat.le_refl _) (by omega))
      have HB3 := Lib.hid (HB2.out.trans (b23.mono HB2.out.size))
      have HLT2 := Lib.hid HK2.out.lt
      have hk3 := HK2.out.below b23 HLT2.out
      have c0 : w3.cell? ⟨w1.heap.size, 0, none⟩ = some (.string hs) := (hk3.cell 0).trans rfl
      have c2 : w3.cell? ⟨w1.heap.size, 2, none⟩ = some (.int .u32 (sum : Int)) := (hk3.cell 2).trans rfl
      have HK3 := Lib.hid hk3
      have HOW := Lib.hid (own_mono hown3 HB2.out.size)
      clear hrow3 hg3 b23 hk3 hown3 hz2a HO HS
      by_cases hcm : cmd = []
      · have hse' : hs.toList.isEmpty = true := by rw [hse]; simpa using hcm
        have HF := Lib.hid (show Frm.get l = ([], [], 24 + len, 8) by rw [HG2.out, if_pos hcm])
        clear hse hcm
        go_wp2_with fail
        refine bodyPost_ret (results_tmp4 rfl _ _ _) rfl ?_
        exact GetOut.nil HF.out HB3.out
      · have hse' : hs.toList.isEmpty = false := by rw [hse]; simpa using hcm
        have HG3 := Lib.hid (show Frm.get l = if (Sha.check bd).toNat ≠ sum then ([], [], 24 + len, 7) else (cmd, bd, 24 + len, 0) by rw [HG2.out, if_neg hcm])
        obtain ⟨A3, c3, rfl, hc3, hm3, hat3, _⟩ := OwnB.at_ HOW.out
        have HAT3 := Lib.hid hat3
        rw [HBL.out] at hc3
        have hck := fun i => check_ref A3 bd.length c3 w3.heap.size bd (w3.drewN i) rfl (by rw [HBL.out]; exact hc3) hm3 (by rw [HBL.out]; omega) (HAT3.out.below (below_drewN (Below.refl _ _) i)) (Nat.le_refl _)
        obtain ⟨x, hx⟩ : ∃ x, x = (Sha.check bd).toNat := ⟨_, rfl⟩
        rw [← hx] at hck HG3
        have HCK := Lib.hid hck
        have HX := Lib.hid hx
        have HLT3 := Lib.hid HK3.out.lt
        clear hse hcm hat3 hck hx
        go_upto_region 12 with (fail)
        go_region_held3 (fun w' => w'.cell? ⟨w1.heap.size, 2, none⟩ = some (.int .u32 (sum : Int))) (first | go_keep | exact (hb4.cell (p := ⟨w1.heap.size, 2, none⟩) HLT3.out).trans c2) ((go_at_call 20; refine (HCK.out _).mono ?_; rintro e w' ⟨rfl, hb4⟩))
        have HB4 := Lib.hid ((below_drewN HB3.out _).trans (hb4.mono HB3.out.size))
        have HK4 := Lib.hid ((HK3.out.drewN _).below hb4 HLT3.out)
        have HOW4 := Lib.hid (own_below HOW.out ((below_drewN (Below.refl _ w3) _).trans hb4))
        obtain ⟨w4, hw4⟩ : ∃ w4, w4 = w' := ⟨_, rfl⟩
        rw [← hw4] at HB4 HK4 HOW4 ⊢
        have c0 : w4.cell? ⟨w1.heap.size, 0, none⟩ = some (.string hs) := (HK4.out.cell 0).trans rfl
        clear hb4 hw4 c2
        by_cases hxs : x = sum
        · have hxs' : ((x : Int) != (sum : Int)) = false := by rw [bne_eq_false_iff_eq]; omega
          have HF := Lib.hid (show Frm.get l = (cmd, bd, 24 + len, 0) by rw [HG3.out, if_neg (by simpa using hxs)])
          clear hxs
          go_wp2_with fail
          refine bodyPost_ret (results_tmp4 rfl _ _ _) rfl ?_
          refine ⟨.slice A3 bd.length c3, ?_, ?_, HB4.out⟩
          · rw [HF.out]; show Ending.returned (.tuple #[.string hs, .slice A3 bd.length c3, .int .i64 (24 + (len : Int)), .int .i64 0]) = _; rw [HHS.out]; simp
          · rw [HF.out]; exact HOW4.out
        · have hxs' : ((x : Int) != (sum : Int)) = true := by rw [bne_iff_ne]; omega
          have HF := Lib.hid (show Frm.get l = ([], [], 24 + len, 7) by rw [HG3.out, if_pos (by simpa using hxs)])
          clear hxs
          go_wp2_with fail
          refine bodyPost_ret (results_tmp4 rfl _ _ _) rfl ?_
          exact GetOut.nil HF.out HB4.out
  · have he' : (err != 0) = true := by rw [bne_iff_ne]; exact he
    have HF := Lib.hid (show Frm.get l = ([], [], 0, err) by rw [HG.out]; simp [he])
    clear he
    go_wp2_with fail
    refine bodyPost_ret (results_tmp4 rfl _ _ _) rfl ?_
    exact GetOut.nil HF.out (HB1.out.alloc hz1 _)
theorem rg_any (A : Option Addr) (c B n : Nat) (l : List UInt8) (w : World) (hl : l.length = n) (hc : n ≤ c) (hm : c ≤ maxLen) (hn : n ≤ 140737488351232) (h : BytesAt w B A l) (hB : B ≤ w.heap.size) :
    Calls Tryd.prog 24 #[.slice A n c] w fun e w' => GetOut w w' (Frm.get l) e := by
  by_cases h24 : n < 24
  · exact rg_short A n c l w hl h24
  · obtain ⟨q, off, rfl, _, _⟩ := h.cell (i := 0) (by omega)
    exact rg_head q off c B n l w hl (by omega) hc hm hn h hB
end Go.Proofs.YteebehmmfkapgaaDoor
