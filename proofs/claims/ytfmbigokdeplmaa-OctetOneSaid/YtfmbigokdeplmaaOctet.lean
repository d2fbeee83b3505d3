/- The walks of package octet and of the document's own (pappusref02). -/
import Derived.Test.YtfmbigokdeplmaaBase
import Derived.Test.YtfmbigokdeplmaaOctetPure
namespace Go.Proofs.Ytfmbigokdeplmaa
open Go.RowKit Go.Deep
set_option linter.unusedVariables false
set_option maxRecDepth 100000
attribute [local go_sem ↓] Go.wp_at_zero Go.wp_at_succ

/-- a number of 64 bits; behind a name, since the walk can't bear the numeral -/
def U64 (x : Nat) : Prop := x < 18446744073709551616
def okWidth (n : Int) : Bool := decide (n = 1 ∨ n = 2 ∨ n = 4 ∨ n = 8)
set_option maxHeartbeats 400000 in
theorem width_any (n : Int) (w : World) : Calls Try.prog 28 #[.int .i64 n] w fun r w' => r = .returned (.bool (okWidth n)) ∧ w = w' := by
  go_enter Try.func28, Try.ntmps28
  go_wp2
  all_goals
    go_ret
    refine ⟨congrArg (fun x => Ending.returned (.bool x)) ?_, rfl⟩
    simp [okWidth, *]
    try (by_cases e : n = 8 <;> simp [e])
theorem width_yes (n : Nat) (hn : n = 1 ∨ n = 2 ∨ n = 4 ∨ n = 8) (w : World) : Calls Try.prog 28 #[.int .i64 n] w fun r w' => r = .returned (.bool true) ∧ w = w' := by
  have e : okWidth n = true := by unfold okWidth; simp; omega
  have := width_any n w
  rwa [e] at this
theorem width_no (n : Int) (hn : ¬ (n = 1 ∨ n = 2 ∨ n = 4 ∨ n = 8)) (w : World) : Calls Try.prog 28 #[.int .i64 n] w fun r w' => r = .returned (.bool false) ∧ w = w' := by
  have e : okWidth n = false := by unfold okWidth; simp; omega
  have := width_any n w
  rwa [e] at this
set_option maxHeartbeats 400000 in
theorem wide_any (c : Nat) (hx : c < 256) (w : World) : Calls Try.prog 29 #[.int .u8 (c : Int)] w fun r w' => r = .returned (.int .i64 (Oct.wide c : Nat)) ∧ w = w' := by
  go_enter Try.func29, Try.ntmps29
  go_wp2
  all_goals
    go_ret
    refine ⟨congrArg (fun x => Ending.returned (.int .i64 x)) ?_, rfl⟩
    try simp only [beq_iff_eq, beq_eq_false_iff_ne] at *
    unfold Oct.wide
    (repeat' split) <;> first | rfl | omega
set_option maxHeartbeats 400000 in
theorem osize_any (x : Nat) (w : World) : Calls Try.prog 21 #[.int .u64 (x : Int)] w fun r w' => r = .returned (.int .i64 (Oct.size x : Nat)) ∧ w = w' := by
  rcases Nat.lt_or_ge x 253 with h1 | h1
  · go_enter Try.func21, Try.ntmps21
    go_wp2
    go_ret
    exact ⟨by simp [Oct.size, h1], rfl⟩
  go_enter Try.func21, Try.ntmps21
  go_wp2
  all_goals
    go_ret
    refine ⟨congrArg (fun x => Ending.returned (.int .i64 x)) ?_, rfl⟩
    try simp only [beq_iff_eq, beq_eq_false_iff_ne] at *
    unfold Oct.size
    (repeat' split) <;> first | rfl | omega
set_option maxHeartbeats 400000 in
theorem oput_no (x : Nat) (n : Int) (hn : ¬ (n = 1 ∨ n = 2 ∨ n = 4 ∨ n = 8)) (w : World) : Calls Try.prog 12 #[.int .u64 (x : Int), .int .i64 n] w fun r w' => r = .returned (.tuple #[.slice none 0 0, .int .i64 2]) ∧ w = w' := by
  go_enter Try.func12, Try.ntmps12
  go_wp2_with (go_at_call 28; refine (width_no _ hn _).mono ?_; rintro e w' ⟨rfl, rfl⟩)
  go_ret2
  exact ⟨rfl, rfl⟩
set_option maxHeartbeats 400000 in
theorem oput_great (x n : Nat) (hn : n = 1 ∨ n = 2 ∨ n = 4) (hx : 256 ^ n ≤ x) (w : World) : Calls Try.prog 12 #[.int .u64 (x : Int), .int .i64 (n : Int)] w fun r w' => r = .returned (.tuple #[.slice none 0 0, .int .i64 3]) ∧ w = w' := by
  have h8 : ((n : Int) < 8) := by omega
  have hs : ((x : Int) / 2 ^ (8 * n) != 0) = true := by
    have e := Oct.shr_nat x (8 * n)
    rw [e, Nat.pow_mul, bne_iff_ne]
    have : 0 < x / (2 ^ 8) ^ n := Nat.div_pos hx (Nat.pow_pos (by decide))
    omega
  go_enter Try.func12, Try.ntmps12
  go_wp2_with (go_at_call 28; refine (width_yes _ (by omega) _).mono ?_; rintro e w' ⟨rfl, rfl⟩)
  go_ret2
  exact ⟨rfl, rfl⟩
/-- a row that is filled up: the bytes so far, then zeros -/
def fillUp (bs : List UInt8) (n : Nat) : List UInt8 := bs ++ List.replicate (n - bs.length) 0
theorem fillUp_length (bs : List UInt8) (n : Nat) (h : bs.length ≤ n) : (fillUp bs n).length = n := by simp [fillUp]; omega
theorem fillUp_set (bs : List UInt8) (n : Nat) (c : UInt8) (h : bs.length < n) : (fillUp bs n).set bs.length c = fillUp (bs ++ [c]) n := by
  unfold fillUp
  rw [List.set_append_right _ _ (Nat.le_refl _), Nat.sub_self, show n - bs.length = (n - (bs.length + 1)) + 1 by omega, List.replicate_succ]
  simp
theorem fillUp_all (bs : List UInt8) : fillUp bs bs.length = bs := by simp [fillUp]
theorem le_snoc (x k : Nat) : Oct.le x (k + 1) = Oct.le x k ++ [UInt8.ofNat (x / 256 ^ k)] := by
  rw [Oct.le_append]; rfl
theorem byteV_shr (x k : Nat) : Value.int .u8 ((x : Int) / 2 ^ (8 * k) % 256) = byteV (UInt8.ofNat (x / 256 ^ k)) := by
  unfold byteV
  rw [Oct.shr_nat, UInt8.toNat_ofNat', Nat.pow_mul]
  congr 1
/-- a row of the call's own, filled with a number's bytes so far -/
structure PutL (w0 : World) (x n k : Nat) (w : World) : Prop where
  le : k ≤ n
  row : Bk w w0.heap.size 5 (bytesArr (fillUp (Oct.le x k) n))
  below : Below w0.heap.size w0 w
theorem PutL.step {w0 w : World} {x n k : Nat} (g : PutL w0 x n k w) (hk : k < n) {v : Value} (hv : v = byteV (UInt8.ofNat (x / 256 ^ k))) : PutL w0 x n (k + 1) (w.setCell ⟨w0.heap.size, k, none⟩ v) := by
  subst hv
  refine ⟨hk, ?_, g.below.setCell (Nat.le_refl _) _⟩
  have := g.row.setByte k (UInt8.ofNat (x / 256 ^ k))
  have e := fillUp_set (Oct.le x k) n (UInt8.ofNat (x / 256 ^ k)) (by rw [Oct.le_length]; exact hk)
  rw [Oct.le_length] at e
  rw [e, ← le_snoc] at this
  exact this
theorem PutL.cell {w0 w : World} {x n k : Nat} (g : PutL w0 x n k w) (hk : k < n) : ∃ v, w.cell? ⟨w0.heap.size, k, none⟩ = some v := by
  rw [g.row.cell]
  have : k < (bytesArr (fillUp (Oct.le x k) n)).size := by
    simp only [bytesArr, List.size_toArray, List.length_map]
    rw [fillUp_length _ _ (by rw [Oct.le_length]; omega)]; exact hk
  exact ⟨_, Array.getElem?_eq_getElem this⟩
set_option maxHeartbeats 1000000 in
theorem oput_fits (x n : Nat) (hx : U64 x) (hn : n = 1 ∨ n = 2 ∨ n = 4 ∨ n = 8) (hf : n < 8 → x < 256 ^ n) (w : World) :
    Calls Try.prog 12 #[.int .u64 (x : Int), .int .i64 (n : Int)] w fun r w' => ∃ v, r = .returned (.tuple #[v, .int .i64 0]) ∧ OwnB w' w.heap.size v (Oct.le x n) ∧ Below w.heap.size w w' := by
  have hmk := run_make_row' (P := Try.prog) 23 5 (.int .u8 0) 1 Try.underlying23 byte_info rfl .i64 .i64 n (by omega) (by omega)
  have hs : (n : Int) < 8 → ((x : Int) / 2 ^ (8 * n) != 0) = false := by
    intro h
    have e := Oct.shr_nat x (8 * n)
    rw [e, Nat.pow_mul, bne_eq_false_iff_eq]
    have := Nat.div_eq_of_lt (hf (by omega))
    show ((x / 256 ^ n : Nat) : Int) = 0
    omega
  have key : ∀ w1 : World, w1 = w.alloc (.cells (madeCells #[.int .u8 0] n) 5) → Bk w1 w.heap.size 5 (bytesArr (fillUp (Oct.le x 0) n)) := by
    intro w1 e
    subst e
    have := Bk.new w 5 (madeCells #[.int .u8 0] n)
    rw [made_zero] at this ⊢
    exact this
  clear hf
  by_cases h8 : (n : Int) < 8
  · have hs' := hs h8
    clear hs
    go_enter Try.func12, Try.ntmps12
    go_wp2_with (go_at_call 28; refine (width_yes _ hn _).mono ?_; rintro e w' ⟨rfl, rfl⟩)
    have hw1 := key _ rfl
    have hb1 : Below w.heap.size w (w.alloc (.cells (madeCells #[.int .u8 0] n) 5)) := (Below.refl _ _).alloc (Nat.le_refl _) _
    go_loopw [25] (fun i wr => ∃ k : Nat, i = .int .i64 k ∧ PutL w x n k wr) (fun i _ => n - (intOf i).toNat)
    case atStart => exact ⟨0, rfl, Nat.zero_le _, hw1, hb1⟩
    case round =>
      obtain ⟨k, rfl, g⟩ := hrel
      have gle := g.le
      by_cases hk : k < n
      · obtain ⟨v0, hc0⟩ := g.cell hk
        have hf0 := g.row.frozen k
        have G := Lib.hid g
        clear g hw1 hb1 key hmk
        go_wp2
        go_roundw
        case rel => exact ⟨k + 1, by go_num, G.out.step hk (byteV_shr x k)⟩
        case measure => simp [intOf]; omega
      · obtain rfl : k = n := by omega
        have hrow := g.row
        have hbl := g.below
        have e := fillUp_all (Oct.le x k)
        rw [Oct.le_length] at e
        rw [e] at hrow
        have hown := hrow.own (Nat.le_refl w.heap.size) (by rw [Oct.le_length]; simp only [maxLen]; omega)
        rw [Oct.le_length] at hown
        have Hown := Lib.hid hown
        clear hown hrow e g hw1 hb1 key hmk
        go_wp2
        go_ret2
        exact ⟨_, rfl, Hown.out, hbl⟩
  · have h8' : 8 ≤ (n : Int) := by omega
    clear hs h8
    go_enter Try.func12, Try.ntmps12
    go_wp2_with (go_at_call 28; refine (width_yes _ hn _).mono ?_; rintro e w' ⟨rfl, rfl⟩)
    have hw1 := key _ rfl
    have hb1 : Below w.heap.size w (w.alloc (.cells (madeCells #[.int .u8 0] n) 5)) := (Below.refl _ _).alloc (Nat.le_refl _) _
    go_loopw [25] (fun i wr => ∃ k : Nat, i = .int .i64 k ∧ PutL w x n k wr) (fun i _ => n - (intOf i).toNat)
    case atStart => exact ⟨0, rfl, Nat.zero_le _, hw1, hb1⟩
    case round =>
      obtain ⟨k, rfl, g⟩ := hrel
      have gle := g.le
      by_cases hk : k < n
      · obtain ⟨v0, hc0⟩ := g.cell hk
        have hf0 := g.row.frozen k
        have G := Lib.hid g
        clear g hw1 hb1 key hmk
        go_wp2
        go_roundw
        case rel => exact ⟨k + 1, by go_num, G.out.step hk (byteV_shr x k)⟩
        case measure => simp [intOf]; omega
      · obtain rfl : k = n := by omega
        have hrow := g.row
        have hbl := g.below
        have e := fillUp_all (Oct.le x k)
        rw [Oct.le_length] at e
        rw [e] at hrow
        have hown := hrow.own (Nat.le_refl w.heap.size) (by rw [Oct.le_length]; simp only [maxLen]; omega)
        rw [Oct.le_length] at hown
        have Hown := Lib.hid hown
        clear hown hrow e g hw1 hb1 key hmk
        go_wp2
        go_ret2
        exact ⟨_, rfl, Hown.out, hbl⟩

set_option maxHeartbeats 400000 in
theorem oget_no (A : Option Addr) (n cap : Nat) (hn : ¬ (n = 1 ∨ n = 2 ∨ n = 4 ∨ n = 8)) (w : World) :
    Calls Try.prog 14 #[.slice A n cap] w fun r w' => r = .returned (.tuple #[.int .u64 0, .int .i64 2]) ∧ w = w' := by
  go_enter Try.func14, Try.ntmps14
  go_wp2_with (go_at_call 28; refine (width_no _ (by omega) _).mono ?_; rintro e w' ⟨rfl, rfl⟩)
  go_ret2
  exact ⟨rfl, rfl⟩
/-- a byte more, the highest one: it is or-ed to what is there -/
theorem or_byte (x k c : Nat) (hk : k < 8) (hc : c < 256) (hx : x < 256 ^ k) : bits .or .u64 (x : Int) (IntKind.u64.wrap ((c : Int) * 2 ^ (8 * k))) = ((x + 256 ^ k * c : Nat) : Int) := by
  have hp : (256 : Nat) ^ k = 2 ^ (8 * k) := by rw [Nat.pow_mul]
  have h8 : (256 : Nat) ^ (k + 1) ≤ 256 ^ 8 := Nat.pow_le_pow_right (by decide) (by omega)
  have hm : c * 256 ^ k ≤ 255 * 256 ^ k := Nat.mul_le_mul_right _ (by omega)
  rw [Nat.pow_succ] at h8
  have hlt : c * 256 ^ k < 18446744073709551616 := by omega
  have e1 : ((c : Int) * 2 ^ (8 * k)) = ((c * 256 ^ k : Nat) : Int) := by rw [hp, Int.natCast_mul, Int.natCast_pow]; rfl
  rw [e1, IntKind.wrap_u64, show ((c * 256 ^ k : Nat) : Int) % 18446744073709551616 = ((c * 256 ^ k : Nat) : Int) by omega]
  rw [u64_or_nat _ _ (by omega) hlt]
  congr 1
  rw [Nat.or_comm, Nat.mul_comm c, hp, ← Nat.two_pow_add_eq_or_of_lt (by rw [← hp]; exact hx)]
  omega
theorem val_take (bs : List UInt8) (k : Nat) (h : k < bs.length) : Oct.val (bs.take (k + 1)) = Oct.val (bs.take k) + 256 ^ k * bs[k].toNat := by
  rw [List.take_succ_eq_append_getElem h, Oct.val_append, List.length_take, Nat.min_eq_left (by omega)]
  simp [Oct.val]
set_option maxHeartbeats 1000000 in
theorem oget_yes (A : Option Addr) (cap B : Nat) (bs : List UInt8) (hn : bs.length = 1 ∨ bs.length = 2 ∨ bs.length = 4 ∨ bs.length = 8) (w : World) (h : BytesAt w B A bs) :
    Calls Try.prog 14 #[.slice A bs.length cap] w fun r w' => r = .returned (.tuple #[.int .u64 (Oct.val bs : Nat), .int .i64 0]) ∧ w = w' := by
  go_enter Try.func14, Try.ntmps14
  go_wp2_with (go_at_call 28; refine (width_yes _ hn _).mono ?_; rintro e w' ⟨rfl, rfl⟩)
  go_loop [4, 13] (fun x i => ∃ k : Nat, k ≤ bs.length ∧ i = .int .i64 k ∧ x = .int .u64 (Oct.val (bs.take k) : Nat)) (fun _ i => bs.length - (intOf i).toNat)
  case atStart => exact ⟨0, Nat.zero_le _, rfl, rfl⟩
  case round =>
    obtain ⟨k, hk', rfl, rfl⟩ := hrel
    by_cases hk : k < bs.length
    · obtain ⟨q, off, rfl, _, c1⟩ := h.cell hk
      have hx1 := bs[k].toNat_lt
      have hx2 := Oct.val_lt (bs.take k)
      rw [List.length_take, Nat.min_eq_left (by omega)] at hx2
      have e := or_byte (Oct.val (bs.take k)) k bs[k].toNat (by omega) hx1 hx2
      rw [← val_take bs k hk] at e
      have E := Lib.hid e
      clear e hx2 h
      generalize bs[k] = c at *
      generalize Oct.val (bs.take k) = x at *
      go_wp2
      go_round
      case rel => exact ⟨k + 1, by omega, by go_num, by rw [E.out]⟩
      case measure => simp [intOf]; omega
    · have e : bs.take k = bs := List.take_of_length_le (by omega)
      rw [e]
      clear e h
      go_wp2
      go_ret2
      exact ⟨rfl, rfl⟩

theorem own_one (w : World) (c : UInt8) : OwnB (w.alloc (.cells #[byteV c] 5)) w.heap.size (.slice (some ⟨w.heap.size, 0, none⟩) 1 1) [c] :=
  (Bk.new w 5 (bytesArr [c])).own (Nat.le_refl _) (by simp [maxLen])
theorem byteV_nat (x : Nat) : Value.int .u8 ((x : Int) % 256) = byteV (UInt8.ofNat x) := by
  unfold byteV
  rw [UInt8.toNat_ofNat']
  congr 1
set_option maxHeartbeats 1000000 in
theorem ovar_small (x : Nat) (h : x < 253) (w : World) :
    Calls Try.prog 17 #[.int .u64 (x : Int)] w fun r w' => ∃ v, r = .returned v ∧ OwnB w' w.heap.size v (Oct.var x) ∧ Below w.heap.size w w' := by
  have e : Oct.size x = 1 := by unfold Oct.size; rw [if_pos h]
  have ev : Oct.var x = [UInt8.ofNat x] := by unfold Oct.var; rw [if_pos h]
  have hs := osize_any x
  rw [e] at hs
  have HS := Lib.hid hs
  rw [ev]
  clear e ev hs
  go_enter Try.func17, Try.ntmps17
  go_wp2_with (go_at_call 21; refine (HS.out _).mono ?_; rintro e w' ⟨rfl, rfl⟩)
  go_ret
  refine ⟨_, rfl, ?_, (Below.refl _ _).alloc (Nat.le_refl _) _⟩
  have hown := own_one w (UInt8.ofNat x)
  rw [← byteV_nat] at hown
  first | exact hown | (rw [show ((x : Int) % 256) = (x : Int) by omega] at hown; exact hown)
/-- a row of the call's own: a first byte, then a number's bytes so far -/
structure VarL (w0 : World) (x n : Nat) (c : UInt8) (k : Nat) (w : World) : Prop where
  pos : 1 ≤ k
  le : k ≤ n
  row : Bk w w0.heap.size 5 (bytesArr (fillUp (c :: Oct.le x (k - 1)) n))
  below : Below w0.heap.size w0 w
theorem VarL.step {w0 w : World} {x n k : Nat} {c : UInt8} (g : VarL w0 x n c k w) (hk : k < n) {v : Value} (hv : v = byteV (UInt8.ofNat (x / 256 ^ (k - 1)))) : VarL w0 x n c (k + 1) (w.setCell ⟨w0.heap.size, k, none⟩ v) := by
  subst hv
  have hp := g.pos
  refine ⟨by omega, hk, ?_, g.below.setCell (Nat.le_refl _) _⟩
  have := g.row.setByte k (UInt8.ofNat (x / 256 ^ (k - 1)))
  have hl : (c :: Oct.le x (k - 1)).length = k := by simp [Oct.le_length]; omega
  have e := fillUp_set (c :: Oct.le x (k - 1)) n (UInt8.ofNat (x / 256 ^ (k - 1))) (by rw [hl]; exact hk)
  rw [hl] at e
  rw [e, List.cons_append, ← le_snoc, show k - 1 + 1 = k + 1 - 1 by omega] at this
  exact this
theorem VarL.cell {w0 w : World} {x n k : Nat} {c : UInt8} (g : VarL w0 x n c k w) (hk : k < n) : ∃ v, w.cell? ⟨w0.heap.size, k, none⟩ = some v := by
  rw [g.row.cell]
  have hp := g.pos
  have : k < (bytesArr (fillUp (c :: Oct.le x (k - 1)) n)).size := by
    simp only [bytesArr, List.size_toArray, List.length_map]
    rw [fillUp_length _ _ (by simp [Oct.le_length]; omega)]; exact hk
  exact ⟨_, Array.getElem?_eq_getElem this⟩
theorem byteV_shr' (x k : Nat) (h : 1 ≤ k) : Value.int .u8 ((x : Int) / 2 ^ (8 * k - 8) % 256) = byteV (UInt8.ofNat (x / 256 ^ (k - 1))) := by
  rw [← byteV_shr, show 8 * k - 8 = 8 * (k - 1) by omega]
theorem var_start (w : World) (x n : Nat) (c : UInt8) (hn : 1 ≤ n) {cs : Array Value} (h : cs = bytesArr ((List.replicate n 0).set 0 c)) : VarL w x n c 1 (w.alloc (.cells cs 5)) := by
  subst h
  refine ⟨Nat.le_refl _, hn, ?_, (Below.refl _ _).alloc (Nat.le_refl _) _⟩
  have := Bk.new w 5 (bytesArr ((List.replicate n 0).set 0 c))
  obtain ⟨m, rfl⟩ : ∃ m, n = m + 1 := ⟨n - 1, by omega⟩
  simpa [fillUp, Oct.le, List.replicate_succ] using this
theorem made_set (n : Nat) (c : UInt8) : (madeCells #[Value.int .u8 0] n).setIfInBounds 0 (byteV c) = bytesArr ((List.replicate n 0).set 0 c) := by
  rw [made_zero]; simp only [bytesArr, List.map_set, List.setIfInBounds_toArray]
set_option maxHeartbeats 1000000 in
theorem ovar_great (x : Nat) (hx : U64 x) (h : 253 ≤ x) (w : World) :
    Calls Try.prog 17 #[.int .u64 (x : Int)] w fun r w' => ∃ v, r = .returned v ∧ OwnB w' w.heap.size v (Oct.var x) ∧ Below w.heap.size w w' := by
  have ev : Oct.var x = Oct.first (Oct.size x) :: Oct.le x (Oct.size x - 1) := by unfold Oct.var; rw [if_neg (by omega)]
  have hs := osize_any x
  have hn : Oct.size x = 3 ∨ Oct.size x = 5 ∨ Oct.size x = 9 := by unfold Oct.size; (repeat' split) <;> omega
  rw [ev]
  clear ev
  generalize Oct.size x = n at *
  have hmk := run_make_row' (P := Try.prog) 23 5 (.int .u8 0) 1 Try.underlying23 byte_info rfl .i64 .i64 n (by omega) (by omega)
  have HS := Lib.hid hs
  clear hs
  have e1 : ((n : Int) == 1) = false := by rw [beq_eq_false_iff_ne]; omega
  have hn0 : 0 < n := by omega
  have hm0 : (madeCells #[Value.int .u8 0] n)[0]? = some (.int .u8 0) := by simp [madeCells, hn0]
  have hm1 : ((madeCells #[Value.int .u8 0] n).setIfInBounds 0 (Value.int .u8 253))[0]? = some (Value.int .u8 253) := by simp [madeCells, hn0]
  rcases hn with h3 | h5 | h9
  · have e5 : ((n : Int) == 5) = false := by rw [beq_eq_false_iff_ne]; omega
    have e9 : ((n : Int) == 9) = false := by rw [beq_eq_false_iff_ne]; omega
    have ec : Oct.first n = (253 : UInt8) := by rw [h3]; rfl
    rw [ec]
    clear ec
    go_enter Try.func17, Try.ntmps17
    have H3 := Lib.hid h3
    clear h3
    go_wp2_with (go_at_call 21; refine (HS.out _).mono ?_; rintro e w' ⟨rfl, rfl⟩)
    go_loopw [5] (fun i wr => ∃ k : Nat, i = .int .i64 k ∧ VarL w x n (253 : UInt8) k wr) (fun i _ => n - (intOf i).toNat)
    case atStart => exact ⟨1, rfl, var_start w x n (253 : UInt8) hn0 (made_set n (253 : UInt8))⟩
    case round =>
      obtain ⟨k, rfl, g⟩ := hrel
      have gle := g.le
      have gpos := g.pos
      by_cases hk : k < n
      · obtain ⟨v0, hc0⟩ := g.cell hk
        have hf0 := g.row.frozen k
        have G := Lib.hid g
        have hn9 : n ≤ 9 := by have := H3.out; omega
        clear g hmk hm0 hm1
        go_wp2
        go_roundw
        case rel => exact ⟨k + 1, by go_num, G.out.step hk (byteV_shr' x k gpos)⟩
        case measure => simp [intOf]; omega
      · obtain rfl : k = n := by omega
        have hrow := g.row
        have hbl := g.below
        have hl : ((253 : UInt8) :: Oct.le x (k - 1)).length = k := by simp [Oct.le_length]; omega
        have e := fillUp_all ((253 : UInt8) :: Oct.le x (k - 1))
        rw [hl] at e
        rw [e] at hrow
        have hn9 : k ≤ 9 := by have := H3.out; omega
        have hown := hrow.own (Nat.le_refl w.heap.size) (by rw [hl]; simp only [maxLen]; omega)
        rw [hl] at hown
        have Hown := Lib.hid hown
        clear hown hrow e g hmk hm0 hm1 hl
        go_wp2
        go_ret
        exact ⟨_, rfl, Hown.out, hbl⟩
  · have e5 : ((n : Int) == 5) = true := by rw [beq_iff_eq]; omega
    have e9 : ((n : Int) == 9) = false := by rw [beq_eq_false_iff_ne]; omega
    have ec : Oct.first n = (254 : UInt8) := by rw [h5]; rfl
    rw [ec]
    clear ec
    go_enter Try.func17, Try.ntmps17
    have H3 := Lib.hid h5
    clear h5
    go_wp2_with (go_at_call 21; refine (HS.out _).mono ?_; rintro e w' ⟨rfl, rfl⟩)
    go_loopw [5] (fun i wr => ∃ k : Nat, i = .int .i64 k ∧ VarL w x n (254 : UInt8) k wr) (fun i _ => n - (intOf i).toNat)
    case atStart => exact ⟨1, rfl, var_start w x n (254 : UInt8) hn0 (made_set n (254 : UInt8))⟩
    case round =>
      obtain ⟨k, rfl, g⟩ := hrel
      have gle := g.le
      have gpos := g.pos
      by_cases hk : k < n
      · obtain ⟨v0, hc0⟩ := g.cell hk
        have hf0 := g.row.frozen k
        have G := Lib.hid g
        have hn9 : n ≤ 9 := by have := H3.out; omega
        clear g hmk hm0 hm1
        go_wp2
        go_roundw
        case rel => exact ⟨k + 1, by go_num, G.out.step hk (byteV_shr' x k gpos)⟩
        case measure => simp [intOf]; omega
      · obtain rfl : k = n := by omega
        have hrow := g.row
        have hbl := g.below
        have hl : ((254 : UInt8) :: Oct.le x (k - 1)).length = k := by simp [Oct.le_length]; omega
        have e := fillUp_all ((254 : UInt8) :: Oct.le x (k - 1))
        rw [hl] at e
        rw [e] at hrow
        have hn9 : k ≤ 9 := by have := H3.out; omega
        have hown := hrow.own (Nat.le_refl w.heap.size) (by rw [hl]; simp only [maxLen]; omega)
        rw [hl] at hown
        have Hown := Lib.hid hown
        clear hown hrow e g hmk hm0 hm1 hl
        go_wp2
        go_ret
        exact ⟨_, rfl, Hown.out, hbl⟩
  · have e5 : ((n : Int) == 5) = false := by rw [beq_eq_false_iff_ne]; omega
    have e9 : ((n : Int) == 9) = true := by rw [beq_iff_eq]; omega
    have ec : Oct.first n = (255 : UInt8) := by rw [h9]; rfl
    rw [ec]
    clear ec
    go_enter Try.func17, Try.ntmps17
    have H3 := Lib.hid h9
    clear h9
    go_wp2_with (go_at_call 21; refine (HS.out _).mono ?_; rintro e w' ⟨rfl, rfl⟩)
    go_loopw [5] (fun i wr => ∃ k : Nat, i = .int .i64 k ∧ VarL w x n (255 : UInt8) k wr) (fun i _ => n - (intOf i).toNat)
    case atStart => exact ⟨1, rfl, var_start w x n (255 : UInt8) hn0 (made_set n (255 : UInt8))⟩
    case round =>
      obtain ⟨k, rfl, g⟩ := hrel
      have gle := g.le
      have gpos := g.pos
      by_cases hk : k < n
      · obtain ⟨v0, hc0⟩ := g.cell hk
        have hf0 := g.row.frozen k
        have G := Lib.hid g
        have hn9 : n ≤ 9 := by have := H3.out; omega
        clear g hmk hm0 hm1
        go_wp2
        go_roundw
        case rel => exact ⟨k + 1, by go_num, G.out.step hk (byteV_shr' x k gpos)⟩
        case measure => simp [intOf]; omega
      · obtain rfl : k = n := by omega
        have hrow := g.row
        have hbl := g.below
        have hl : ((255 : UInt8) :: Oct.le x (k - 1)).length = k := by simp [Oct.le_length]; omega
        have e := fillUp_all ((255 : UInt8) :: Oct.le x (k - 1))
        rw [hl] at e
        rw [e] at hrow
        have hn9 : k ≤ 9 := by have := H3.out; omega
        have hown := hrow.own (Nat.le_refl w.heap.size) (by rw [hl]; simp only [maxLen]; omega)
        rw [hl] at hown
        have Hown := Lib.hid hown
        clear hown hrow e g hmk hm0 hm1 hl
        go_wp2
        go_ret
        exact ⟨_, rfl, Hown.out, hbl⟩
theorem ovar_any (x : Nat) (hx : U64 x) (w : World) :
    Calls Try.prog 17 #[.int .u64 (x : Int)] w fun r w' => ∃ v, r = .returned v ∧ OwnB w' w.heap.size v (Oct.var x) ∧ Below w.heap.size w w' := by
  rcases Nat.lt_or_ge x 253 with h | h
  · exact ovar_small x h w
  · exact ovar_great x hx h w

/-! ### two lists of bytes, held against one another -/
theorem take_eq_succ {α : Type} {l l' : List α} {k : Nat} (h : k < l.length) (h' : k < l'.length) (e : l.take k = l'.take k) (ek : l[k] = l'[k]) : l.take (k + 1) = l'.take (k + 1) := by
  rw [List.take_succ_eq_append_getElem h, List.take_succ_eq_append_getElem h', e, ek]
theorem ne_of_index {α : Type} {l l' : List α} {k : Nat} (h : k < l.length) (h' : k < l'.length) (ek : l[k] ≠ l'[k]) : l ≠ l' := by
  intro e; subst e; exact ek rfl
set_option maxHeartbeats 1000000 in
theorem same_len (A A' : Option Addr) (c c' : Nat) (l l' : List UInt8) (w : World) (B B' : Nat) (e : l'.length = l.length) (hl : l.length ≤ 9223372036854775807) (h : BytesAt w B A l) (h' : BytesAt w B' A' l') :
    Calls Try.prog 16 #[.slice A l.length c, .slice A' l.length c'] w fun r w' => r = .returned (.bool (decide (l = l'))) ∧ ∃ n, w' = w.drewN n := by
  have E := Lib.hid e
  clear e
  go_enter Try.func16, Try.ntmps16
  go_wp2
  go_loopw [13] (fun i wr => ∃ k : Nat, k ≤ l.length ∧ i = .int .i64 k ∧ Hid (l.take k = l'.take k) ∧ ∃ n, wr = w.drewN n) (fun i _ => l.length - (intOf i).toNat)
  case atStart => exact ⟨0, Nat.zero_le _, rfl, Lib.hid (by simp), 0, rfl⟩
  case round =>
    obtain ⟨k, hk', rfl, ht, m, rfl⟩ := hrel
    by_cases hk : k < l.length
    · have hk2 : k < l'.length := by rw [E.out]; exact hk
      obtain ⟨q, off, rfl, _, c1⟩ := h.cell hk
      obtain ⟨q', off', rfl, _, c2⟩ := h'.cell hk2
      have i1 : (0 : Int) ≤ (k : Int) := by omega
      have i2 : (k : Int) < (l.length : Int) := by omega
      by_cases hx : l[k] = l'[k]
      · have ht2 := Lib.hid (take_eq_succ hk hk2 ht.out hx)
        rw [← hx] at c2
        clear hx
        generalize l[k] = x at *
        go_wp2_with fail
        go_quiet (fail)
        go_wp2_with fail
        go_roundw
        case rel => exact ⟨k + 1, by omega, by go_num, ht2, m + nq, by first | rfl | simp⟩
        case measure => simp [intOf]; omega
      · have hd : decide (l = l') = false := decide_eq_false (ne_of_index hk hk2 hx)
        have hne : ((l[k].toNat : Int) != (l'[k].toNat : Int)) = true := by
          rw [bne_iff_ne]
          intro e
          exact hx (UInt8.toNat_inj.1 (by omega))
        have HD := Lib.hid hd
        clear hd hx
        generalize l[k] = x at *
        generalize l'[k] = y at *
        go_wp2_with fail
        go_quiet (fail)
        go_wp2_with fail
        go_ret
        exact ⟨by rw [HD.out]; rfl, m + nq, by first | rfl | simp⟩
    · have hd : decide (l = l') = true := by
        have e1 : l.take k = l := List.take_of_length_le (by omega)
        have e2 : l'.take k = l' := List.take_of_length_le (by rw [E.out]; omega)
        have := ht.out
        rw [e1, e2] at this
        exact decide_eq_true this
      have HD := Lib.hid hd
      clear hd
      go_wp2
      go_ret
      exact ⟨by rw [HD.out]; rfl, m, rfl⟩
set_option maxHeartbeats 400000 in
theorem same_any (A A' : Option Addr) (n n' c c' : Nat) (l l' : List UInt8) (w : World) (B B' : Nat) (e : l.length = n) (e' : l'.length = n') (hl : n ≤ 9223372036854775807) (hl' : n' ≤ 9223372036854775807) (h : BytesAt w B A l) (h' : BytesAt w B' A' l') :
    Calls Try.prog 16 #[.slice A n c, .slice A' n' c'] w fun r w' => r = .returned (.bool (decide (l = l'))) ∧ ∃ n, w' = w.drewN n := by
  subst e; subst e'
  by_cases e : l'.length = l.length
  · rw [e]; exact same_len A A' c c' l l' w B B' e hl h h'
  · have hd : decide (l = l') = false := decide_eq_false (fun x => e (by rw [x]))
    have hne : ((l.length : Int) != (l'.length : Int)) = true := by rw [bne_iff_ne]; omega
    rw [hd]
    clear hd e h h'
    go_enter Try.func16, Try.ntmps16
    go_wp2
    go_ret
    exact ⟨rfl, 0, rfl⟩
/-- .. of two equal ones -/
theorem same_yes (A A' : Option Addr) (n n' c c' : Nat) (l : List UInt8) (w : World) (B B' : Nat) (e : l.length = n) (e' : l.length = n') (hl : n ≤ 9223372036854775807) (h : BytesAt w B A l) (h' : BytesAt w B' A' l) :
    Calls Try.prog 16 #[.slice A n c, .slice A' n' c'] w fun r w' => r = .returned (.bool true) ∧ Below w.heap.size w w' := by
  refine (same_any A A' n n' c c' l l w B B' e e' hl (by omega) h h').mono fun r w' ⟨hr, m, hw⟩ => ⟨by rw [hr]; simp, ?_⟩
  rw [hw]; exact below_drewN (Below.refl _ _) m
end Go.Proofs.Ytfmbigokdeplmaa
