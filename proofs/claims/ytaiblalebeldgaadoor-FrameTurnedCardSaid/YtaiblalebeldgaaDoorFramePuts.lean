/- Frames: what is put, read and said by a head is the document's. -/
import Derived.Test.YtaiblalebeldgaaDoorRef05Get
namespace Go.Proofs.YtaiblalebeldgaaDoor
open Go.RowKit Go.Deep
set_option linter.unusedVariables false
set_option linter.unusedSimpArgs false
set_option maxRecDepth 100000
attribute [local go_sem ↓] Go.wp_at_zero Go.wp_at_succ
theorem at_nil (w : World) (B : Nat) (A : Option Addr) : BytesAt w B A [] := fun i hi => by simp at hi
theorem framePuts_great (w : World) (hlay : Laid w) (s : ByteArray) (hs : s.size ≤ 9223372036854775807) (A : Option Addr) (n c : Nat) (hr : 5000 < n ∨ 1000 < s.size) :
    Calls Tryd.prog 3 #[.string s, .slice A n c] w fun e w' => e = .returned (.bool true) ∧ Below w.heap.size w w' := by
  have HA := Lib.hid (frame_alive w hlay)
  clear hlay
  by_cases h5 : 5000 < n
  · have h5' : (5000 : Int) < (n : Int) := by omega
    go_enter Tryd.func3, Tryd.ntmps3
    go_wp2_with fail
    refine HA.out.mono ?_
    rintro e w1 ⟨rfl, hb1⟩
    go_wp2_with fail
    go_ret
    exact ⟨rfl, hb1⟩
  · have h5' : ¬ (5000 : Int) < (n : Int) := by omega
    have h1' : (1000 : Int) < (s.size : Int) := by omega
    have h1n : 1000 < s.size := by omega
    go_enter Tryd.func3, Tryd.ntmps3
    go_wp2_with fail
    refine HA.out.mono ?_
    rintro e w1 ⟨rfl, hb1⟩
    go_wp2_with fail
    go_ret
    exact ⟨rfl, hb1⟩
theorem framePuts_no (w : World) (hlay : Laid w) (s : ByteArray) (hs : s.size ≤ 1000) (A : Option Addr) (n c : Nat) (hr : n ≤ 5000) (x : Int) (b : Bool) (hn : Frm.named s.data.toList = b)
    (hp : ∀ W : World, Hid (Calls Tryd.prog 12 #[.string s, .slice A n c] W fun e w' => e = .returned (.tuple #[.slice none 0 0, .int .i64 x]) ∧ Below W.heap.size W w'))
    (hq : ∀ W : World, Hid (Calls Tryd.prog 13 #[.string s, .slice A n c] W fun e w' => e = .returned (.tuple #[.slice none 0 0, .int .i64 x]) ∧ Below W.heap.size W w')) :
    Calls Tryd.prog 3 #[.string s, .slice A n c] w fun e w' => e = .returned (.bool true) ∧ Below w.heap.size w w' := by
  have HA := Lib.hid (frame_alive w hlay)
  have h5' : ¬ (5000 : Int) < (n : Int) := by omega
  have h1' : ¬ (1000 : Int) < (s.size : Int) := by omega
  have h1n : ¬ 1000 < s.size := by omega
  have hN := fun W => named_any s W (by omega)
  have hM := fun W => named_ref s W (by omega)
  rw [hn] at hN hM
  have HN := Lib.hid hN
  have HM := Lib.hid hM
  clear hlay hN hM hn
  go_enter Tryd.func3, Tryd.ntmps3
  go_wp2_with fail
  refine HA.out.mono ?_
  rintro e w1 ⟨rfl, hb1⟩
  have HB1 := Lib.hid hb1
  clear hb1
  go_wp2_with fail
  refine (hp _).out.mono ?_
  rintro e w2 ⟨rfl, hb2⟩
  have HB2 := Lib.hid (HB1.out.trans (hb2.mono HB1.out.size))
  clear hb2
  go_wp2_with fail
  refine (hq _).out.mono ?_
  rintro e w3 ⟨rfl, hb3⟩
  have HB3 := Lib.hid (HB2.out.trans (hb3.mono HB2.out.size))
  clear hb3 hp hq
  go_wp2_with fail
  refine (same_yes none none 0 0 0 0 [] w3 0 0 rfl rfl (by omega) (at_nil _ _ _) (at_nil _ _ _)).mono ?_
  rintro e w4 ⟨rfl, hb4⟩
  have HB4 := Lib.hid (HB3.out.trans (hb4.mono HB3.out.size))
  clear hb4
  go_wp2_with fail
  refine (HN.out _).mono ?_
  rintro e w5 ⟨rfl, hb5⟩
  have HB5 := Lib.hid (HB4.out.trans (hb5.mono HB4.out.size))
  clear hb5
  go_wp2_with fail
  refine (HM.out _).mono ?_
  rintro e w6 ⟨rfl, rfl⟩
  go_wp2_with fail
  go_ret
  exact ⟨rfl, HB5.out⟩
theorem framePuts_yes (w : World) (hlay : Laid w) (s : ByteArray) (hs : s.size ≤ 1000) (hn : Frm.named s.data.toList = true) (A : Option Addr) (c : Nat) (body : List UInt8) (hl : body.length ≤ 2048) (hc : body.length ≤ c) (hm : c ≤ maxLen) (hat : BytesAt w w.heap.size A body) :
    Calls Tryd.prog 3 #[.string s, .slice A body.length c] w fun e w' => e = .returned (.bool true) ∧ Below w.heap.size w w' := by
  have HA := Lib.hid (frame_alive w hlay)
  have h5' : ¬ (5000 : Int) < (body.length : Int) := by omega
  have h1' : ¬ (1000 : Int) < (s.size : Int) := by omega
  have h1n : ¬ 1000 < s.size := by omega
  have HP := fun W h1 h2 h3 => Lib.hid (put_yes s A c w.heap.size body W h1 (by omega) hn hl h2 h3 hc hm)
  have HQ := fun W h2 h3 => Lib.hid (rfput_yes s A c w.heap.size body W (by omega) hn hl h2 h3 hc hm)
  have HL := Lib.hid hlay
  have HAT := Lib.hid hat
  have hN := fun W => named_any s W (by omega)
  have hM := fun W => named_ref s W (by omega)
  rw [hn] at hN hM
  have HN := Lib.hid hN
  have HM := Lib.hid hM
  have hpl := Frm.put_len hn body
  obtain ⟨p, hp⟩ : ∃ p, p = Frm.put s.data.toList body := ⟨_, rfl⟩
  rw [← hp] at hpl HP HQ
  have HPL := Lib.hid (show p.length ≤ 2072 by omega)
  clear hlay hN hM hn hat hpl hp
  go_enter Tryd.func3, Tryd.ntmps3
  go_wp2_with fail
  refine HA.out.mono ?_
  rintro e w1 ⟨rfl, hb1⟩
  have HB1 := Lib.hid hb1
  clear hb1
  go_wp2_with fail
  refine (HP _ (HL.out.below HB1.out) (HAT.out.below HB1.out) HB1.out.size).out.mono ?_
  rintro e w2 ⟨v2, rfl, ho2, hb2⟩
  have HB2 := Lib.hid (HB1.out.trans (hb2.mono HB1.out.size))
  obtain ⟨A2, c2, rfl, _, _, hat2, _⟩ := ho2.at_
  have HAT2 := Lib.hid hat2
  clear hb2 ho2 hat2 HP
  go_wp2_with fail
  refine (HQ _ (HAT.out.below HB2.out) HB2.out.size).out.mono ?_
  rintro e w3 ⟨v3, rfl, ho3, hb3⟩
  have HB3 := Lib.hid (HB2.out.trans (hb3.mono HB2.out.size))
  obtain ⟨A3, c3, rfl, _, _, hat3, _⟩ := ho3.at_
  have HS := Lib.hid (same_yes A2 A3 p.length p.length c2 c3 p w3 _ _ rfl rfl (by have := HPL.out; omega) (HAT2.out.below hb3) hat3)
  clear hb3 ho3 hat3 HQ
  go_wp2_with fail
  refine HS.out.mono ?_
  rintro e w4 ⟨rfl, hb4⟩
  have HB4 := Lib.hid (HB3.out.trans (hb4.mono HB3.out.size))
  clear hb4
  go_wp2_with fail
  refine (HN.out _).mono ?_
  rintro e w5 ⟨rfl, hb5⟩
  have HB5 := Lib.hid (HB4.out.trans (hb5.mono HB4.out.size))
  clear hb5
  go_wp2_with fail
  refine (HM.out _).mono ?_
  rintro e w6 ⟨rfl, rfl⟩
  go_wp2_with fail
  go_ret
  exact ⟨rfl, HB5.out⟩
theorem framePuts_walk (w : World) (hlay : Laid w) (s : ByteArray) (hs : s.size ≤ 9223372036854775807) (A : Option Addr) (n c : Nat) (body : List UInt8) (hl : body.length = n) (hc : n ≤ c) (hm : c ≤ maxLen) (hat : BytesAt w w.heap.size A body) :
    Calls Tryd.prog 3 #[.string s, .slice A n c] w fun e w' => e = .returned (.bool true) ∧ Below w.heap.size w w' := by
  subst hl
  by_cases hg : 5000 < body.length ∨ 1000 < s.size
  · exact framePuts_great w hlay s hs A _ c hg
  · cases hn : Frm.named s.data.toList with
    | false => exact framePuts_no w hlay s (by omega) A _ c (by omega) 8 false hn (fun W => Lib.hid (put_unnamed s A _ c W (by omega) hn)) (fun W => Lib.hid (rfput_unnamed s A _ c W (by omega) hn))
    | true =>
      by_cases hb : body.length ≤ 2048
      · exact framePuts_yes w hlay s (by omega) hn A c body hb hc hm hat
      · exact framePuts_no w hlay s (by omega) A _ c (by omega) 5 true hn (fun W => Lib.hid (put_long s A _ c W (by omega) hn (by omega))) (fun W => Lib.hid (rfput_long s A _ c W (by omega) hn (by omega)))
theorem frameGets_walk (w : World) (hlay : Laid w) (A : Option Addr) (n c : Nat) (l : List UInt8) (hl : l.length = n) (hc : n ≤ c) (hm : c ≤ maxLen) (hat : BytesAt w w.heap.size A l) :
    Calls Tryd.prog 4 #[.slice A n c] w fun e w' => e = .returned (.bool true) ∧ Below w.heap.size w w' := by
  have HA := Lib.hid (frame_alive w hlay)
  have HL := Lib.hid hlay
  have HAT := Lib.hid hat
  by_cases hg : 10000 < n
  · have hg' : (10000 : Int) < (n : Int) := by omega
    clear hlay hat
    go_enter Tryd.func4, Tryd.ntmps4
    go_wp2_with fail
    refine HA.out.mono ?_
    rintro e w1 ⟨rfl, hb1⟩
    go_wp2_with fail
    go_ret
    exact ⟨rfl, hb1⟩
  · have hg' : ¬ (10000 : Int) < (n : Int) := by omega
    have HG := Lib.hid (fun W h1 h2 h3 => get_any A c w.heap.size n l W h1 hl hc hm (by omega) h2 h3)
    have HR := Lib.hid (fun W h2 h3 => rg_any A c w.heap.size n l W hl hc hm (by omega) h2 h3)
    have hbl : (Frm.get l).2.1.length ≤ n := by
      unfold Frm.get
      split
      · simp
      · dsimp only
        split
        · simp
        · split
          · simp
          · split
            · simp
            · split
              · simp
              · simp only [List.length_take, List.length_drop]; omega
    obtain ⟨⟨cm, bd, k, er⟩, hgt⟩ : ∃ g, g = Frm.get l := ⟨_, rfl⟩
    rw [← hgt] at HG HR hbl
    have HBL := Lib.hid hbl
    clear hlay hat hgt hbl
    go_enter Tryd.func4, Tryd.ntmps4
    go_wp2_with fail
    refine HA.out.mono ?_
    rintro e w1 ⟨rfl, hb1⟩
    have HB1 := Lib.hid hb1
    clear hb1
    go_wp2_with fail
    refine (HG.out _ (HL.out.below HB1.out) (HAT.out.below HB1.out) HB1.out.size).mono ?_
    rintro e w2 ⟨v2, rfl, ho2, hb2⟩
    have HB2 := Lib.hid (HB1.out.trans (hb2.mono HB1.out.size))
    obtain ⟨A2, c2, rfl, _, _, hat2, _⟩ := ho2.at_
    have HAT2 := Lib.hid hat2
    clear hb2 ho2 hat2 HG
    go_wp2_with fail
    refine (HR.out _ (HAT.out.below HB2.out) HB2.out.size).mono ?_
    rintro e w3 ⟨v3, rfl, ho3, hb3⟩
    have HB3 := Lib.hid (HB2.out.trans (hb3.mono HB2.out.size))
    obtain ⟨A3, c3, rfl, _, _, hat3, _⟩ := ho3.at_
    have HS := Lib.hid (same_yes A2 A3 bd.length bd.length c2 c3 bd w3 _ _ rfl rfl (by have h : bd.length ≤ n := HBL.out; omega) (HAT2.out.below hb3) hat3)
    clear hb3 ho3 hat3 HR
    go_wp2_with fail
    refine HS.out.mono ?_
    rintro e w4 ⟨rfl, hb4⟩
    have HB4 := Lib.hid (HB3.out.trans (hb4.mono HB3.out.size))
    clear hb4
    go_wp2_with fail
    go_ret
    exact ⟨rfl, HB4.out⟩
theorem head_all (A : Option Addr) (c B n : Nat) (l : List UInt8) (w : World) (hl : l.length = n) (hc : n ≤ c) (h : BytesAt w B A l) (hB : B ≤ w.heap.size) :
    Calls Tryd.prog 19 #[.slice A n c] w fun e w' => e = .returned (headV (Frm.head l)) ∧ Below w.heap.size w w' := by
  by_cases h24 : n = 24
  · subst h24
    obtain ⟨q, off, rfl, _, _⟩ := h.cell (i := 0) (by omega)
    exact head_yes q off c B l w hl h hB hc
  · exact head_short A n c l w hl h24
theorem rhead_all (A : Option Addr) (c B n : Nat) (l : List UInt8) (w : World) (hl : l.length = n) (hc : n ≤ c) (h : BytesAt w B A l) (hB : B ≤ w.heap.size) :
    Calls Tryd.prog 20 #[.slice A n c] w fun e w' => e = .returned (headV (Frm.head l)) ∧ Below w.heap.size w w' := by
  by_cases h24 : n = 24
  · subst h24
    obtain ⟨q, off, rfl, _, _⟩ := h.cell (i := 0) (by omega)
    exact rhead_yes q off c B l w hl h hB hc
  · exact rhead_short A n c l w hl h24
theorem frameHeads_walk (w : World) (hlay : Laid w) (A : Option Addr) (n c : Nat) (l : List UInt8) (hl : l.length = n) (hc : n ≤ c) (hm : c ≤ maxLen) (hat : BytesAt w w.heap.size A l) :
    Calls Tryd.prog 5 #[.slice A n c] w fun e w' => e = .returned (.bool true) ∧ Below w.heap.size w w' := by
  have HA := Lib.hid (frame_alive w hlay)
  have HAT := Lib.hid hat
  have HG := Lib.hid (fun W h2 h3 => head_all A c w.heap.size n l W hl hc h2 h3)
  have HR := Lib.hid (fun W h2 h3 => rhead_all A c w.heap.size n l W hl hc h2 h3)
  obtain ⟨⟨⟨cm, ln, sm⟩, er⟩, hgt⟩ : ∃ g, g = Frm.head l := ⟨_, rfl⟩
  rw [← hgt] at HG HR
  unfold headV at HG HR
  dsimp only at HG HR
  clear hlay hat hgt
  go_enter Tryd.func5, Tryd.ntmps5
  go_wp2_with fail
  refine HA.out.mono ?_
  rintro e w1 ⟨rfl, hb1⟩
  have HB1 := Lib.hid hb1
  clear hb1
  go_wp2_with fail
  refine (HG.out _ (HAT.out.below HB1.out) HB1.out.size).mono ?_
  rintro e w2 ⟨rfl, hb2⟩
  have HB2 := Lib.hid (HB1.out.trans (hb2.mono HB1.out.size))
  have hz2 := HB2.out.size
  have hba : Below w.heap.size w (w2.alloc (.cells #[.string ⟨cm.toArray⟩, .int .i64 (ln : Int), .int .u32 (sm : Int)] 35)) := HB2.out.alloc hz2 _
  have HBA := Lib.hid hba
  have HKA := Lib.hid (Bk.new w2 35 #[.string ⟨cm.toArray⟩, .int .i64 (ln : Int), .int .u32 (sm : Int)])
  clear hb2 HG hba
  go_wp2_with fail
  refine (HR.out _ (HAT.out.below HBA.out) HBA.out.size).mono ?_
  rintro e w3 ⟨rfl, hb3⟩
  have HB3 := Lib.hid (HBA.out.trans (hb3.mono HBA.out.size))
  have hz3 := HB3.out.size
  have hk3 := (HKA.out.below hb3 HKA.out.lt)
  have hlt3 := hk3.lt
  have HB3a := Lib.hid (HB3.out.alloc hz3 (.cells #[.string ⟨cm.toArray⟩, .int .i64 (ln : Int), .int .u32 (sm : Int)] 38))
  have a0 : w3.cell? ⟨w2.heap.size, 0, none⟩ = some (.string ⟨cm.toArray⟩) := hk3.cell 0
  have a1 : w3.cell? ⟨w2.heap.size, 1, none⟩ = some (.int .i64 (ln : Int)) := hk3.cell 1
  have a2 : w3.cell? ⟨w2.heap.size, 2, none⟩ = some (.int .u32 (sm : Int)) := hk3.cell 2
  clear hb3 hk3 HR
  go_wp2_with fail
  go_ret
  exact ⟨rfl, HB3a.out⟩
end Go.Proofs.YtaiblalebeldgaaDoor
