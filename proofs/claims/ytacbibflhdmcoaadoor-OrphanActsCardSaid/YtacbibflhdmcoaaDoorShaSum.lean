/- Package sha: a hasher takes pieces. -/
import Derived.Test.YtacbibflhdmcoaaDoorShaAdd
namespace Go.Proofs.YtacbibflhdmcoaaDoor
open Go.RowKit Go.Deep
set_option linter.unusedVariables false
set_option linter.unusedSimpArgs false
set_option maxRecDepth 100000
attribute [local go_sem ↓] Go.wp_at_zero Go.wp_at_succ

theorem flat_take (ls : List (List UInt8)) (k : Nat) (hk : k < ls.length) : (ls.take (k + 1)).flatten = (ls.take k).flatten ++ ls[k] := by
  rw [List.take_succ_eq_append_getElem hk, List.flatten_append]; simp only [List.flatten_cons, List.flatten_nil, List.append_nil]
theorem flat_take_le (ls : List (List UInt8)) (k : Nat) (hk : k < ls.length) : (ls.take k).flatten.length + ls[k].length ≤ ls.flatten.length := by
  have h := flat_take ls k hk
  have : (ls.take (k + 1)).flatten.length ≤ ls.flatten.length := by
    have e := congrArg (fun l => (List.flatten l).length) (List.take_append_drop (k + 1) ls)
    simp only [List.flatten_append, List.length_append] at e
    omega
  rw [h, List.length_append] at this
  exact this
theorem write_any (h : Nat) (m : List UInt8) (ls : List (List UInt8)) (A : Option Addr) (c B : Nat) (w : World) (hi : IsHasher w h m) (hl : Laid w) (h1 : 1 ≠ h) (h2 : 0 ≠ h) (hp : PartsAt w B A ls) (hB : B ≤ h)
    (hlc : ls.length ≤ c) (hm : c ≤ maxLen) (hs : m.length + ls.flatten.length ≤ 1152921504606846976) :
    Calls Tryd.prog 70 #[.pointer (some ⟨h, 0, none⟩), .slice A ls.length c] w fun e w' => e = .returned (.int .i64 0) ∧ IsHasher w' h (m ++ ls.flatten) ∧ Kp (fun i => i = h) w w' := by
  have hlt := hi.lt
  have HI := Lib.hid hi
  have HP := Lib.hid hp
  have HL := Lib.hid hl
  unfold maxLen at hm
  have hm' : ls.length ≤ 9223372036854775807 := by omega
  have HS := Lib.hid hs
  clear hi hp hl hlc hm hs
  go_enter Tryd.func70, Tryd.ntmps70
  go_wp2_with fail
  go_loopw [11] (fun i wr => ∃ k : Nat, k ≤ ls.length ∧ i = .int .i64 (k : Int) ∧ Hid (IsHasher wr h (m ++ (ls.take k).flatten)) ∧ Hid (Kp (fun i => i = h) w wr)) (fun i _ => ls.length - (intOf i).toNat)
  case atStart => exact ⟨0, Nat.zero_le _, rfl, Lib.hid (by simpa using HI.out), Lib.hid (Kp.refl _ _)⟩
  case round =>
    clear HI
    obtain ⟨k, hk, rfl, hih, hkp⟩ := hrel
    by_cases hlt : k < ls.length
    · have hp' := At.kp HP.out hkp.out (by omega) (fun i hi (e : i = h) => by omega)
      obtain ⟨b, off, A', c', rfl, hbB, hcell, hc1, hc2, hat⟩ := PartsAt.cell HP.out hlt
      obtain ⟨q, hq⟩ : ∃ q, q = ls[k] := ⟨_, rfl⟩
      rw [← hq] at hcell hc1 hat
      have hcell2 := (hkp.out.cell (p := ⟨b, off + k, none⟩) (by show b < _; omega) (by show ¬ b = h; omega)).trans hcell
      have hat2 := At.mono (At.kp hat hkp.out (by omega) (fun i hi (e : i = h) => by omega)) (Nat.le_trans (by omega : B ≤ w.heap.size) hkp.out.size)
      have HC := Lib.hid (add_any h (m ++ (ls.take k).flatten) q A' c' _ hih.out (HL.out.kp hkp.out h1 h2) h1 h2 hat2
        (fun a ha e => by
          obtain ⟨b', off', hA', hb', _⟩ := hat.cell (i := 0) e
          rw [hA'] at ha; cases ha; show b' ≠ h; omega) hc1 hc2 (by have := flat_take_le ls k hlt; have := HS.out; rw [List.length_append, hq]; omega))
      have HN := Lib.hid (show m ++ (ls.take (k + 1)).flatten = m ++ (ls.take k).flatten ++ q by rw [flat_take ls k hlt, hq, List.append_assoc])
      clear hcell hat hq
      go_wp2_with fail
      refine HC.out.mono ?_
      rintro e w2 ⟨rfl, hi2, hk2⟩
      have HI2 := Lib.hid hi2
      have HK2 := Lib.hid (hkp.out.trans hk2)
      clear hi2 hk2
      go_wp2_with fail
      go_roundw
      case rel => exact ⟨k + 1, by omega, by go_num, Lib.hid (by rw [HN.out]; exact HI2.out), HK2⟩
      case measure => simp [intOf]; omega
    · obtain rfl : k = ls.length := by omega
      rw [List.take_of_length_le (Nat.le_refl _)] at hih
      go_wp2_with fail
      go_ret
      exact ⟨rfl, hih.out, hkp.out⟩
end Go.Proofs.YtacbibflhdmcoaaDoor
