/- heavy and SameAll. -/
import Derived.Test.YtfmbigokdeplmaaOctetRows
namespace Go.Proofs.Ytfmbigokdeplmaa
open Go.RowKit Go.Deep
set_option linter.unusedVariables false
set_option maxRecDepth 100000
attribute [local go_sem ↓] Go.wp_at_zero Go.wp_at_succ

def Oct.tot : List (List UInt8) → Nat
  | [] => 0
  | p :: r => p.length + Oct.tot r
theorem tot_append (a b : List (List UInt8)) : Oct.tot (a ++ b) = Oct.tot a + Oct.tot b := by
  induction a with
  | nil => simp [Oct.tot]
  | cons p a ih => simp only [List.cons_append, Oct.tot, ih]; omega
theorem tot_take {ls : List (List UInt8)} {k : Nat} (h : k < ls.length) : Oct.tot (ls.take (k + 1)) = Oct.tot (ls.take k) + ls[k].length := by
  rw [List.take_succ_eq_append_getElem h, tot_append]; simp [Oct.tot]
theorem flat_tot (ls : List (List UInt8)) : (ls.flatMap fun p => Oct.var p.length ++ p).length ≤ 9 * ls.length + Oct.tot ls := by
  induction ls with
  | nil => simp [Oct.tot]
  | cons p l ih =>
    have h1 := Oct.var_length p.length
    have h2 := (Oct.size_pos p.length).2
    rw [List.flatMap_cons, List.length_append, List.length_append, List.length_cons, Oct.tot]
    omega
theorem pack_tot (ls : List (List UInt8)) : (Oct.pack ls).length ≤ 9 + 9 * ls.length + Oct.tot ls := by
  have h1 := Oct.var_length ls.length
  have h2 := (Oct.size_pos ls.length).2
  have := flat_tot ls
  unfold Oct.pack
  rw [List.length_append]
  omega
theorem tot_mem {ls : List (List UInt8)} {p : List UInt8} (h : p ∈ ls) : p.length ≤ Oct.tot ls := by
  induction ls with
  | nil => cases h
  | cons q l ih =>
    rw [Oct.tot]
    rcases List.mem_cons.1 h with rfl | h
    · omega
    · have := ih h; omega

set_option maxHeartbeats 1000000 in
theorem heavy_any (A : Option Addr) (n cap B : Nat) (ls : List (List UInt8)) (w : World) (hl : ls.length = n) (h : PartsAt w B A ls) :
    Calls Try.prog 22 #[.slice A n cap] w fun r w' => (r = .returned (.bool false) ∧ w = w' ∧ ls.length ≤ 1000 ∧ Oct.tot ls ≤ 100000) ∨ (r = .returned (.bool true) ∧ w = w') := by
  subst hl
  by_cases h1000 : 1000 < ls.length
  · have hi : (1000 : Int) < (ls.length : Int) := by omega
    clear h1000
    go_enter Try.func22, Try.ntmps22
    go_wp2
    go_ret
    exact .inr ⟨rfl, rfl⟩
  · have hi : ¬ ((1000 : Int) < (ls.length : Int)) := by omega
    go_enter Try.func22, Try.ntmps22
    go_wp2
    go_loop [3, 5, 11] (fun s _ i => ∃ k t : Nat, k ≤ ls.length ∧ i = .int .i64 k ∧ s = .int .i64 t ∧ Hid (t = Oct.tot (ls.take k)) ∧ t ≤ 100000) (fun _ _ i => ls.length - (intOf i).toNat)
    case atStart => exact ⟨0, 0, Nat.zero_le _, rfl, rfl, Lib.hid rfl, Nat.zero_le _⟩
    case round =>
      obtain ⟨k, t, hk', rfl, rfl, ht, htl⟩ := hrel
      by_cases hk : k < ls.length
      · obtain ⟨q, off, A1, cap1, rfl, hq, c1, hc1, hm1, hpart⟩ := h.cell hk
        have hsucc := Lib.hid (tot_take hk)
        have i1 : (0 : Int) ≤ (k : Int) := by omega
        have i2 : (k : Int) < (ls.length : Int) := by omega
        clear h hpart
        generalize ls[k].length = m at *
        by_cases hm : m ≤ 100001
        · have e : min (m : Int) 100001 = (m : Int) := by omega
          by_cases hs : 100000 < t + m
          · have hs' : (100000 : Int) < (t : Int) + (m : Int) := by omega
            clear hs
            go_wp2
            go_ret
            exact .inr ⟨rfl, rfl⟩
          · have hs' : ¬ ((100000 : Int) < (t : Int) + (m : Int)) := by omega
            go_wp2
            exact ⟨⟨k + 1, t + m, hk, rfl, rfl, Lib.hid (by rw [hsucc.out, ht.out]), by omega⟩, by simp [intOf]; omega⟩
        · obtain ⟨K, e, hK0, hK1⟩ : ∃ K : Int, (if (100001 : Int) < (m : Int) then (100001 : Int) else (m : Int)) = K ∧ 100000 < K ∧ K ≤ 1000000 := ⟨100001, if_pos (by omega), by omega, by omega⟩
          have hs' : (100000 : Int) < (t : Int) + K := by omega
          clear hm
          go_wp2
          go_ret
          exact .inr ⟨rfl, rfl⟩
      · have e : ls.take k = ls := List.take_of_length_le (by omega)
        have ht2 := ht.out
        rw [e] at ht2
        have HT := Lib.hid ht2
        clear ht2 e
        go_wp2
        go_ret
        exact .inl ⟨rfl, rfl, by omega, by have := HT.out; omega⟩

set_option maxHeartbeats 1000000 in
theorem sameAll_yes (A A' : Option Addr) (n n' c c' B B' : Nat) (ls : List (List UInt8)) (w : World) (e : ls.length = n) (e' : ls.length = n') (hl : n ≤ 9223372036854775807) (hB : B ≤ w.heap.size) (hB' : B' ≤ w.heap.size) (h : PartsAt w B A ls) (h' : PartsAt w B' A' ls) :
    Calls Try.prog 27 #[.slice A n c, .slice A' n' c'] w fun r w' => r = .returned (.bool true) ∧ Below w.heap.size w w' := by
  subst e; subst e'
  go_enter Try.func27, Try.ntmps27
  go_wp2
  go_loopw [5, 13] (fun _ i wr => ∃ k : Nat, k ≤ ls.length ∧ i = .int .i64 k ∧ Below w.heap.size w wr) (fun _ i _ => ls.length - (intOf i).toNat)
  case atStart => exact ⟨0, Nat.zero_le _, rfl, Below.refl _ _⟩
  case round =>
    obtain ⟨k, hk', rfl, hbl⟩ := hrel
    by_cases hk : k < ls.length
    · obtain ⟨q, off, A1, c1, rfl, hq, k1, k2, k3, k4⟩ := (h.below (hbl.mono hB)).cell hk
      obtain ⟨q', off', A2, c2, rfl, hq', m1, m2, m3, m4⟩ := (h'.below (hbl.mono hB')).cell hk
      have i1 : (0 : Int) ≤ (k : Int) := by omega
      have i2 : (k : Int) < (ls.length : Int) := by omega
      have hsz := hbl.size
      clear h h'
      generalize ls[k] = p at *
      unfold maxLen at k3
      go_wp2_with fail
      go_region_with (go_at_call 16; refine (same_yes A1 A2 _ _ c1 c2 p _ _ _ rfl rfl (by omega) (At.below k4 (Below.refl _ _).drew) (At.below m4 (Below.refl _ _).drew)).mono ?_; rintro e w2 ⟨rfl, hb2⟩)
      go_wp2_with fail
      all_goals exact ⟨⟨k + 1, by omega, rfl, hbl.drew.trans (hb2.mono hsz)⟩, by simp [intOf]; omega⟩
    · clear h h'
      go_wp2
      go_ret
      exact ⟨rfl, hbl⟩
end Go.Proofs.Ytfmbigokdeplmaa
