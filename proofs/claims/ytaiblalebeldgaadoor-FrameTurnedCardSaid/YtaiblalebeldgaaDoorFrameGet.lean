/- Package frame: a frame is got. -/
import Derived.Test.YtaiblalebeldgaaDoorFrameHead
namespace Go.Proofs.YtaiblalebeldgaaDoor
open Go.RowKit Go.Deep
set_option linter.unusedVariables false
set_option linter.unusedSimpArgs false
set_option maxRecDepth 100000
attribute [local go_sem ↓] Go.wp_at_zero Go.wp_at_succ

def GetOut (w w' : World) (g : List UInt8 × List UInt8 × Nat × Int) (e : Ending) : Prop :=
  ∃ v, e = .returned (.tuple #[.string ⟨g.1.toArray⟩, v, .int .i64 (g.2.2.1 : Int), .int .i64 g.2.2.2]) ∧ OwnB w' w.heap.size v g.2.1 ∧ Below w.heap.size w w'
theorem GetOut.nil {w w' : World} {n : Nat} {x : Int} {g : List UInt8 × List UInt8 × Nat × Int} (hg : g = ([], [], n, x)) (h : Below w.heap.size w w') : GetOut w w' g (.returned (.tuple #[.string ⟨#[]⟩, .slice none 0 0, .int .i64 (n : Int), .int .i64 x])) := by
  subst hg; exact ⟨_, rfl, own_nil _ _, h⟩
theorem results_tmp4 {fn : Func} {t u v x : Tmp} (h : fn.results = #[.tmp t, .tmp u, .tmp v, .tmp x]) (tmps : Array Value) (P : Program) (w : World) :
    (results fn tmps).run P w = .ok (.tuple #[tmps.getD t undef, tmps.getD u undef, tmps.getD v undef, tmps.getD x undef]) w := by
  simp [results, h]
theorem get_short (A : Option Addr) (n c : Nat) (l : List UInt8) (w : World) (hl : l.length = n) (h : n < 24) :
    Calls Tryd.prog 17 #[.slice A n c] w fun e w' => GetOut w w' (Frm.get l) e := by
  have HF := Lib.hid (show Frm.get l = ([], [], 0, 4) by unfold Frm.get; rw [if_pos (by omega)])
  have h' : (n : Int) < 24 := by omega
  clear hl h
  go_enter Tryd.func17, Tryd.ntmps17
  go_wp2_with fail
  refine bodyPost_ret (results_tmp4 rfl _ _ _) rfl ?_
  exact GetOut.nil HF.out (Below.refl _ _)
set_option maxHeartbeats 1000000 in
theorem get_head (q off c B n : Nat) (l : List UInt8) (w : World) (hlay : Laid w) (hl : l.length = n) (h24 : 24 ≤ n) (hc : n ≤ c) (hm : c ≤ maxLen) (hn : n ≤ 140737488351232) (h : BytesAt w B (some ⟨q, off, none⟩) l) (hB : B ≤ w.heap.size) :
    Calls Tryd.prog 17 #[.slice (some ⟨q, off, none⟩) n c] w fun e w' => GetOut w w' (Frm.get l) e := by
  obtain ⟨hd, hhd⟩ : ∃ hd, hd = Frm.head (l.take 24) := ⟨_, rfl⟩
  have HHD := Lib.hid hhd
  have l24 : (l.take 24).length = 24 := by rw [List.length_take]; omega
  have HC := Lib.hid (head_yes q off c B (l.take 24) w l24 (BytesAt.take h 24) hB (by omega))
  rw [← hhd] at HC
  unfold headV at HC
  obtain ⟨o24, ho24⟩ : ∃ o24, o24 = if c = 24 then off else off + 24 := ⟨_, rfl⟩
  have hat24 : BytesAt w B (some ⟨q, o24, none⟩) (l.drop 24) := by
    by_cases e : c = 24
    · have : l.drop 24 = [] := List.drop_of_length_le (by omega)
      rw [this]; exact fun i hi => by simp at hi
    · rw [ho24, if_neg e]; exact h.drop 24
  have HAT := Lib.hid hat24
  have HLAY := Lib.hid hlay
  unfold maxLen at hm
  have HLN := Lib.hid hl
  have HG := Lib.hid (show Frm.get l = _ by unfold Frm.get; rw [if_neg (by omega), ← hhd])
  have h24' : ¬ (n : Int) < 24 := by omega
  have hif : (if c = 24 then some (⟨q, off, none⟩ : Addr) else some ⟨q, off + 24, none⟩) = some ⟨q, o24, none⟩ := by rw [ho24]; split <;> rfl
  clear hhd l24 hat24 hlay hl h ho24
  obtain ⟨⟨cmd, len, sum⟩, err⟩ := hd
  simp only at HC HG
  go_enter Tryd.func17, Tryd.ntmps17
  go_wp2_with fail
  refine HC.out.mono ?_
  rintro e w1 ⟨rfl, hb1⟩
  have HB1 := Lib.hid hb1
  have hz1 := hb1.size
  clear hb1 HC
  by_cases he : err = 0
  · subst he
    obtain ⟨hs, hhs⟩ : ∃ hs : ByteArray, hs = ⟨cmd.toArray⟩ := ⟨_, rfl⟩
    have hsd : hs.data.toList = cmd := by rw [hhs]
    have hse := str_empty hs
    rw [hsd] at hse
    rw [← hhs]
    have HHS := Lib.hid hhs
    clear hhs hsd
    have hnc : n ≤ 140737488351232 := hn
    by_cases hsh : n - 24 < len
    · have hsh' : ((n - 24 : Nat) : Int) < (len : Int) := by omega
      have HF := Lib.hid (show Frm.get l = ([], [], 0, 4) by rw [HG.out]; simp only [ne_eq, not_true_eq_false, if_false]; rw [if_pos (by rw [HLN.out]; exact hsh)])
      clear hsh hse
      go_wp2_with fail
      refine bodyPost_ret (results_tmp4 rfl _ _ _) rfl ?_
      exact GetOut.nil HF.out (HB1.out.alloc hz1 _)
    · have hsh' : ¬ ((n - 24 : Nat) : Int) < (len : Int) := by omega
      have hlen : len ≤ n - 24 := by omega
      have hlen2 : (len : Int) ≤ 140737488351232 := by omega
      by_cases hcm : cmd = []
      · have hse' : hs.toList.isEmpty = true := by rw [hse]; simpa using hcm
        have HF := Lib.hid (show Frm.get l = ([], [], 24 + len, 8) by rw [HG.out]; simp only [ne_eq, not_true_eq_false, if_false]; rw [if_neg (by rw [HLN.out]; exact hsh), if_pos hcm])
        clear hsh hse hcm
        go_wp2_with fail
        refine bodyPost_ret (results_tmp4 rfl _ _ _) rfl ?_
        exact GetOut.nil HF.out (HB1.out.alloc hz1 _)
      · have hse' : hs.toList.isEmpty = false := by rw [hse]; simpa using hcm
        obtain ⟨bd, hbd⟩ : ∃ bd, bd = (l.drop 24).take len := ⟨_, rfl⟩
        have hbl : bd.length = len := by rw [hbd, List.length_take, List.length_drop, HLN.out]; omega
        have hbat : BytesAt w B (some ⟨q, o24, none⟩) bd := by rw [hbd]; exact BytesAt.take HAT.out len
        have HG2 := Lib.hid (show Frm.get l = if (Sha.check bd).toNat ≠ sum then ([], [], 24 + len, 7) else (cmd, bd, 24 + len, 0) by
          rw [HG.out]; simp only [ne_eq, not_true_eq_false, if_false]; rw [if_neg (by rw [HLN.out]; exact hsh), if_neg hcm, ← hbd])
        have HBAT := Lib.hid hbat
        have HBL := Lib.hid hbl
        clear hsh hse hcm hbd hbat hbl
        go_wp2_with fail
        obtain ⟨w2, hw2⟩ : ∃ w2, w2 = w1.alloc (.cells #[.string hs, .int .i64 (len : Int), .int .u32 (sum : Int)] 35) := ⟨_, rfl⟩
        rw [← hw2]
        have k2 : Bk w2 w1.heap.size 35 #[.string hs, .int .i64 (len : Int), .int .u32 (sum : Int)] := by rw [hw2]; exact Bk.new _ _ _
        have b2 : Below w.heap.size w w2 := by rw [hw2]; exact HB1.out.alloc hz1 _
        have a2 : w2.cell? ⟨w1.heap.size, 2, none⟩ = some (.int .u32 (sum : Int)) := (k2.cell 2).trans rfl
        have hck := fun i => check_any (some ⟨q, o24, none⟩) (c - 24) B bd (w2.drewN i) (HLAY.out.below (below_drewN b2 i)) (HBAT.out.below (below_drewN (b2.mono hB) i)) (Nat.le_trans hB b2.size) (by rw [HBL.out]; omega) (by unfold maxLen; omega) (by rw [HBL.out]; omega)
        rw [HBL.out] at hck
        obtain ⟨x, hx⟩ : ∃ x, x = (Sha.check bd).toNat := ⟨_, rfl⟩
        rw [← hx] at hck HG2
        have HCK := Lib.hid hck
        have HK2 := Lib.hid k2
        have HB2 := Lib.hid b2
        have HLT2 := Lib.hid k2.lt
        clear hw2 k2 b2 hck hx
        go_region_held3 (fun w' => w'.cell? ⟨w1.heap.size, 2, none⟩ = some (.int .u32 (sum : Int))) (first | go_keep | exact (hb3.cell (p := ⟨w1.heap.size, 2, none⟩) HLT2.out).trans a2) ((go_at_call 23; refine (HCK.out _).mono ?_; rintro e w' ⟨rfl, hb3⟩))
        have HB3 := Lib.hid ((below_drewN HB2.out _).trans (hb3.mono HB2.out.size))
        have HK3 := Lib.hid ((HK2.out.drewN _).below hb3 HLT2.out)
        obtain ⟨w3, hw3⟩ : ∃ w3, w3 = w' := ⟨_, rfl⟩
        rw [← hw3] at HB3 HK3 ⊢
        have c0 : w3.cell? ⟨w1.heap.size, 0, none⟩ = some (.string hs) := (HK3.out.cell 0).trans rfl
        clear hb3 hw3 a2
        by_cases hxs : x = sum
        · have hxs' : ((x : Int) != (sum : Int)) = false := by rw [bne_eq_false_iff_eq]; omega
          have HF := Lib.hid (show Frm.get l = (cmd, bd, 24 + len, 0) by rw [HG2.out, if_neg (by simpa using hxs)])
          clear hxs
          have hsrc : ∀ i, Src (w3.drewN i) (some ⟨q, o24, none⟩) (bd.map byteV) := fun i => BytesAt.src (HBAT.out.below (below_drewN (HB3.out.mono hB) i))
          have HSRC := Lib.hid hsrc
          have HLT3 := Lib.hid HK3.out.lt
          have HZ3 := Lib.hid HB3.out.size
          obtain ⟨i0, hi, hz0, hz1', hz2⟩ := info_parts byte_info
          have Hi := Lib.hid hi
          have Hz := Lib.hid hz0
          have Hz1 := Lib.hid hz1'
          have Hz2 := Lib.hid hz2
          clear hi hz0 hz1' hz2 hsrc
          go_wp2_with fail
          go_region_held3 (fun w' => w'.cell? ⟨w1.heap.size, 0, none⟩ = some (.string hs)) (first | go_keep | exact (World.cell?_of_block (hg5.block _ HLT3.out (fun e => by cases e))).trans c0)
            ((refine step_app _ (by rfl) (.const (.slice none 0 0)) (.tmp 48) 22 (by rfl) w.heap.size 5 i0 _ 1 1 Tryd.underlying22 Hi.out Hz.out Hz1.out Hz2.out rfl (by decide) (.slice none 0 0) 0 [] (by rfl) (own_nil _ _) (some ⟨q, o24, none⟩) len (c - 24) (bd.map byteV) (by rfl) (by rw [List.length_map, HBL.out, Nat.mul_one]) (HSRC.out _) (oneCell_bytes _) (by unfold maxLen; omega) (by omega) HZ3.out ?_; intro v5 w5 hrow5 hg5 hat5))
          go_wp2_with fail
          refine bodyPost_ret (results_tmp4 rfl _ _ _) rfl ?_
          refine ⟨v5, ?_, ?_, ?_⟩
          · rw [HF.out]; show Ending.returned (.tuple #[.string hs, v5, .int .i64 (24 + (len : Int)), .int .i64 0]) = _; rw [HHS.out]; simp
          · rw [HF.out]
            show w5.ownsRow _ _ 1 v5 bd.length _
            rw [HBL.out]
            have := hrow5
            rwa [Nat.zero_add, List.nil_append] at this
          · exact (below_drewN HB3.out _).trans ⟨hg5.os, hg5.tape, hg5.output, hg5.size, fun i hi => hg5.block i (Nat.lt_of_lt_of_le hi HZ3.out) (fun e => by cases e)⟩
        · have hxs' : ((x : Int) != (sum : Int)) = true := by rw [bne_iff_ne]; omega
          have HF := Lib.hid (show Frm.get l = ([], [], 24 + len, 7) by rw [HG2.out, if_pos (by simpa using hxs)])
          clear hxs
          go_wp2_with fail
          refine bodyPost_ret (results_tmp4 rfl _ _ _) rfl ?_
          exact GetOut.nil HF.out HB3.out
  · have he' : (err != 0) = true := by rw [bne_iff_ne]; exact he
    have HF := Lib.hid (show Frm.get l = ([], [], 0, err) by rw [HG.out]; simp [he])
    clear he
    go_wp2_with fail
    refine bodyPost_ret (results_tmp4 rfl _ _ _) rfl ?_
    exact GetOut.nil HF.out (HB1.out.alloc hz1 _)
theorem get_any (A : Option Addr) (c B n : Nat) (l : List UInt8) (w : World) (hlay : Laid w) (hl : l.length = n) (hc : n ≤ c) (hm : c ≤ maxLen) (hn : n ≤ 140737488351232) (h : BytesAt w B A l) (hB : B ≤ w.heap.size) :
    Calls Tryd.prog 17 #[.slice A n c] w fun e w' => GetOut w w' (Frm.get l) e := by
  by_cases h24 : n < 24
  · exact get_short A n c l w hl h24
  · obtain ⟨q, off, rfl, _, _⟩ := h.cell (i := 0) (by omega)
    exact get_head q off c B n l w hlay hl (by omega) hc hm hn h hB
end Go.Proofs.YtaiblalebeldgaaDoor
