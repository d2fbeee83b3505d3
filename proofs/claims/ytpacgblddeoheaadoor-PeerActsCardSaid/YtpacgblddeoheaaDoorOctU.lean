/- Bytes against one another; 64 bits. -/
import Derived.Test.YtpacgblddeoheaaDoorBase
import Derived.Test.YtpacgblddeoheaaDoorOctP
namespace Go.Proofs.YtpacgblddeoheaaDoor
open Go.RowKit Go.Deep
set_option linter.unusedVariables false
set_option linter.unusedSimpArgs false
set_option maxRecDepth 100000
attribute [local go_sem ↓] Go.wp_at_zero Go.wp_at_succ

/-- a number of 64 bits; behind a name, since the walk can't bear the numeral -/
def U64 (x : Nat) : Prop := x < 18446744073709551616
theorem val_take (bs : List UInt8) (k : Nat) (h : k < bs.length) : Oct.val (bs.take (k + 1)) = Oct.val (bs.take k) + 256 ^ k * bs[k].toNat := by
  rw [List.take_succ_eq_append_getElem h, Oct.val_append, List.length_take, Nat.min_eq_left (by omega)]
  simp [Oct.val]
theorem take_eq_succ {α : Type} {l l' : List α} {k : Nat} (h : k < l.length) (h' : k < l'.length) (e : l.take k = l'.take k) (ek : l[k] = l'[k]) : l.take (k + 1) = l'.take (k + 1) := by
  rw [List.take_succ_eq_append_getElem h, List.take_succ_eq_append_getElem h', e, ek]
theorem ne_of_index {α : Type} {l l' : List α} {k : Nat} (h : k < l.length) (h' : k < l'.length) (ek : l[k] ≠ l'[k]) : l ≠ l' := by
  intro e; subst e; exact ek rfl
set_option maxHeartbeats 1000000 in
theorem same_len (A A' : Option Addr) (c c' : Nat) (l l' : List UInt8) (w : World) (B B' : Nat) (e : l'.length = l.length) (hl : l.length ≤ 9223372036854775807) (h : BytesAt w B A l) (h' : BytesAt w B' A' l') :
    Calls Tryd.prog 78 #[.slice A l.length c, .slice A' l.length c'] w fun r w' => r = .returned (.bool (decide (l = l'))) ∧ ∃ n, w' = w.drewN n := by
  have E := Lib.hid e
  clear e
  go_enter Tryd.func78, Tryd.ntmps78
  go_wp2
  go_loopw [13] (fun i wr => ∃ k : Nat, k ≤ l.length ∧ i = .int .i64 k ∧ Hid (l.take k = l'.take k) ∧ ∃ n, wr = w.drewN n) (fun i _ => l.length - (intOf i).toNat)
  case atStart => exact ⟨0, Nat.zero_le _, rfl, Lib.hid (by simp), 0, rfl⟩
  case round =>
    obtain ⟨k, hk', rfl, ht, m, rfl⟩ := hrel
    by_cases hk : k < l.length
    · have hk2 : k < l'.length := by rw [E.out]; exact hk
      obtain ⟨q, off, rfl, _, c1⟩ := h.cell hk
      obtain ⟨q', off', rfl, _, c2⟩ := h'.cell hk2
      have i1 : (0 : Int) ≤ (k : Int) := by omega
      have i2 : (k : Int) < (l.length : Int) := by omega
      by_cases hx : l[k] = l'[k]
      · have ht2 := Lib.hid (take_eq_succ hk hk2 ht.out hx)
        rw [← hx] at c2
        clear hx
        generalize l[k] = x at *
        go_wp2_with fail
        go_quiet (fail)
        go_wp2_with fail
        go_roundw
        case rel => exact ⟨k + 1, by omega, by go_num, ht2, m + nq, by first | rfl | simp⟩
        case measure => simp [intOf]; omega
      · have hd : decide (l = l') = false := decide_eq_false (ne_of_index hk hk2 hx)
        have hne : ((l[k].toNat : Int) != (l'[k].toNat : Int)) = true := by
          rw [bne_iff_ne]
          intro e
          exact hx (UInt8.toNat_inj.1 (by omega))
        have HD := Lib.hid hd
        clear hd hx
        generalize l[k] = x at *
        generalize l'[k] = y at *
        go_wp2_with fail
        go_quiet (fail)
        go_wp2_with fail
        go_ret
        exact ⟨by rw [HD.out]; rfl, m + nq, by first | rfl | simp⟩
    · have hd : decide (l = l') = true := by
        have e1 : l.take k = l := List.take_of_length_le (by omega)
        have e2 : l'.take k = l' := List.take_of_length_le (by rw [E.out]; omega)
        have := ht.out
        rw [e1, e2] at this
        exact decide_eq_true this
      have HD := Lib.hid hd
      clear hd
      go_wp2
      go_ret
      exact ⟨by rw [HD.out]; rfl, m, rfl⟩
set_option maxHeartbeats 400000 in
theorem same_any (A A' : Option Addr) (n n' c c' : Nat) (l l' : List UInt8) (w : World) (B B' : Nat) (e : l.length = n) (e' : l'.length = n') (hl : n ≤ 9223372036854775807) (hl' : n' ≤ 9223372036854775807) (h : BytesAt w B A l) (h' : BytesAt w B' A' l') :
    Calls Tryd.prog 78 #[.slice A n c, .slice A' n' c'] w fun r w' => r = .returned (.bool (decide (l = l'))) ∧ ∃ n, w' = w.drewN n := by
  subst e; subst e'
  by_cases e : l'.length = l.length
  · rw [e]; exact same_len A A' c c' l l' w B B' e hl h h'
  · have hd : decide (l = l') = false := decide_eq_false (fun x => e (by rw [x]))
    have hne : ((l.length : Int) != (l'.length : Int)) = true := by rw [bne_iff_ne]; omega
    rw [hd]
    clear hd e h h'
    go_enter Tryd.func78, Tryd.ntmps78
    go_wp2
    go_ret
    exact ⟨rfl, 0, rfl⟩
/-- .. of two equal ones -/
theorem same_yes (A A' : Option Addr) (n n' c c' : Nat) (l : List UInt8) (w : World) (B B' : Nat) (e : l.length = n) (e' : l.length = n') (hl : n ≤ 9223372036854775807) (h : BytesAt w B A l) (h' : BytesAt w B' A' l) :
    Calls Tryd.prog 78 #[.slice A n c, .slice A' n' c'] w fun r w' => r = .returned (.bool true) ∧ Below w.heap.size w w' := by
  refine (same_any A A' n n' c c' l l w B B' e e' hl (by omega) h h').mono fun r w' ⟨hr, m, hw⟩ => ⟨by rw [hr]; simp, ?_⟩
  rw [hw]; exact below_drewN (Below.refl _ _) m
end Go.Proofs.YtpacgblddeoheaaDoor
