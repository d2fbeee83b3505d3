/- FlowA, merged: FlowPure, FlowItems, Flow. -/
import Derived.Test.YtpacgblddeoheaaDoorFrA
/- Package flow, in plain Lean: items out of a row of bytes. -/
namespace Go.Proofs.YtpacgblddeoheaaDoor.Flo
set_option linter.unusedVariables false
set_option linter.unusedSimpArgs false
structure Item where
  cmd : List UInt8
  body : List UInt8
  err : Int
/-- what is told of bytes, what waits, whether it is dead -/
abbrev Out := List Item × List UInt8 × Bool
def go : Nat → List UInt8 → Out
  | 0, x => ([], x, false)
  | k + 1, x =>
    let g := Frm.get x
    if g.2.2.2 = 4 then ([], x, false)
    else if g.2.2.2 = 6 ∨ g.2.2.2 = 5 then ([⟨[], [], g.2.2.2⟩], [], true)
    else
      let r := go k (x.drop g.2.2.1)
      (⟨g.1, g.2.1, g.2.2.2⟩ :: r.1, r.2)
def run (x : List UInt8) : Out := go (x.length + 1) x
def feed (s : List UInt8 × Bool) (b : List UInt8) : Out := if s.2 then ([], [], true) else run (s.1 ++ b)
/-- the item of a frame whose head says h -/
def item (h : Frm.Head) (body : List UInt8) : Item := if h.cmd = [] then ⟨[], [], 8⟩ else if (Sha.check body).toNat ≠ h.sum then ⟨[], [], 7⟩ else ⟨h.cmd, body, 0⟩
theorem head_err {b : List UInt8} (hl : b.length = 24) : (Frm.head b).2 = 0 ∨ (Frm.head b).2 = 6 ∨ (Frm.head b).2 = 5 := by
  unfold Frm.head
  rw [if_neg (by omega)]
  by_cases h1 : b.take 4 ≠ Frm.magic
  · rw [if_pos h1]; exact .inr (.inl rfl)
  · rw [if_neg h1]
    by_cases h2 : 2048 < Oct.val ((b.drop 16).take 4)
    · rw [if_pos h2]; exact .inr (.inr rfl)
    · rw [if_neg h2]; exact .inl rfl
theorem head_len {b : List UInt8} (h : (Frm.head b).2 = 0) : (Frm.head b).1.len ≤ 2048 := by
  unfold Frm.head at h ⊢
  by_cases h0 : b.length ≠ 24
  · rw [if_pos h0] at h; exact absurd h (by decide)
  · rw [if_neg h0] at h ⊢
    by_cases h1 : b.take 4 ≠ Frm.magic
    · rw [if_pos h1] at h; exact absurd h (by decide)
    · rw [if_neg h1] at h ⊢
      by_cases h2 : 2048 < Oct.val ((b.drop 16).take 4)
      · rw [if_pos h2] at h; exact absurd h (by decide)
      · rw [if_neg h2]; exact Nat.le_of_not_lt h2
theorem head_sum {b : List UInt8} : (Frm.head b).1.sum < 4294967296 := by
  unfold Frm.head
  by_cases h0 : b.length ≠ 24
  · rw [if_pos h0]; decide
  · rw [if_neg h0]
    by_cases h1 : b.take 4 ≠ Frm.magic
    · rw [if_pos h1]; decide
    · rw [if_neg h1]
      by_cases h2 : 2048 < Oct.val ((b.drop 16).take 4)
      · rw [if_pos h2]; decide
      · rw [if_neg h2]
        have := Oct.val_lt (b.drop 20)
        have hl : (b.drop 20).length = 4 := by rw [List.length_drop]; omega
        rw [hl] at this
        exact this
theorem get_short {x : List UInt8} (h : x.length < 24) : Frm.get x = ([], [], 0, 4) := by unfold Frm.get; rw [if_pos h]
theorem get_bad {x : List UInt8} (h : 24 ≤ x.length) (he : (Frm.head (x.take 24)).2 ≠ 0) : Frm.get x = ([], [], 0, (Frm.head (x.take 24)).2) := by
  unfold Frm.get; rw [if_neg (by omega)]; simp only; rw [if_pos he]
theorem get_part {x : List UInt8} (h : 24 ≤ x.length) (he : (Frm.head (x.take 24)).2 = 0) (hp : x.length - 24 < (Frm.head (x.take 24)).1.len) : Frm.get x = ([], [], 0, 4) := by
  unfold Frm.get; rw [if_neg (by omega)]; simp only; rw [if_neg (by simp [he]), if_pos hp]
theorem get_whole {x : List UInt8} (h : 24 ≤ x.length) (he : (Frm.head (x.take 24)).2 = 0) (hp : (Frm.head (x.take 24)).1.len ≤ x.length - 24) :
    let i := item (Frm.head (x.take 24)).1 ((x.drop 24).take (Frm.head (x.take 24)).1.len)
    Frm.get x = (i.cmd, i.body, 24 + (Frm.head (x.take 24)).1.len, i.err) := by
  intro i
  have e : Frm.get x = if (Frm.head (x.take 24)).1.cmd = [] then ([], [], 24 + (Frm.head (x.take 24)).1.len, 8) else if (Sha.check ((x.drop 24).take (Frm.head (x.take 24)).1.len)).toNat ≠ (Frm.head (x.take 24)).1.sum then ([], [], 24 + (Frm.head (x.take 24)).1.len, 7)
      else ((Frm.head (x.take 24)).1.cmd, (x.drop 24).take (Frm.head (x.take 24)).1.len, 24 + (Frm.head (x.take 24)).1.len, 0) := by
    unfold Frm.get
    rw [if_neg (show ¬ x.length < 24 by omega)]
    simp only
    rw [if_neg (show ¬ ((Frm.head (x.take 24)).2 ≠ 0) by simp [he]), if_neg (show ¬ (x.length - 24 < (Frm.head (x.take 24)).1.len) by omega)]
  have ei : i = item (Frm.head (x.take 24)).1 ((x.drop 24).take (Frm.head (x.take 24)).1.len) := rfl
  rw [e, ei]
  unfold item
  by_cases h1 : (Frm.head (x.take 24)).1.cmd = []
  · rw [if_pos h1, if_pos h1]
  · rw [if_neg h1, if_neg h1]
    by_cases h2 : (Sha.check ((x.drop 24).take (Frm.head (x.take 24)).1.len)).toNat ≠ (Frm.head (x.take 24)).1.sum
    · rw [if_pos h2, if_pos h2]
    · rw [if_neg h2, if_neg h2]
theorem item_err (h : Frm.Head) (body : List UInt8) : (item h body).err ≠ 4 ∧ ¬ ((item h body).err = 6 ∨ (item h body).err = 5) := by
  unfold item
  by_cases h1 : h.cmd = []
  · rw [if_pos h1]; exact ⟨by simp, by simp⟩
  · rw [if_neg h1]
    by_cases h2 : (Sha.check body).toNat ≠ h.sum
    · rw [if_pos h2]; exact ⟨by simp, by simp⟩
    · rw [if_neg h2]; exact ⟨by simp, by simp⟩
/-! ### four ways -/
theorem go_short {x : List UInt8} (h : x.length < 24) (k : Nat) : go k x = ([], x, false) := by
  cases k with
  | zero => rfl
  | succ k => unfold go; rw [get_short h]; rfl
theorem go_bad {x : List UInt8} (h : 24 ≤ x.length) (he : (Frm.head (x.take 24)).2 ≠ 0) (k : Nat) : go (k + 1) x = ([⟨[], [], (Frm.head (x.take 24)).2⟩], [], true) := by
  unfold go
  rw [get_bad h he]
  have hl : (x.take 24).length = 24 := by rw [List.length_take]; omega
  simp only
  rcases head_err hl with h0 | h0 | h0
  · exact absurd h0 he
  · rw [if_neg (by rw [h0]; decide), if_pos (.inl h0)]
  · rw [if_neg (by rw [h0]; decide), if_pos (.inr h0)]
theorem go_part {x : List UInt8} (h : 24 ≤ x.length) (he : (Frm.head (x.take 24)).2 = 0) (hp : x.length - 24 < (Frm.head (x.take 24)).1.len) (k : Nat) : go k x = ([], x, false) := by
  cases k with
  | zero => rfl
  | succ k => unfold go; rw [get_part h he hp]; rfl
theorem go_whole {x : List UInt8} (h : 24 ≤ x.length) (he : (Frm.head (x.take 24)).2 = 0) (hp : (Frm.head (x.take 24)).1.len ≤ x.length - 24) (k : Nat) :
    go (k + 1) x = (item (Frm.head (x.take 24)).1 ((x.drop 24).take (Frm.head (x.take 24)).1.len) :: (go k (x.drop (24 + (Frm.head (x.take 24)).1.len))).1, (go k (x.drop (24 + (Frm.head (x.take 24)).1.len))).2) := by
  have e := get_whole h he hp
  have hi := item_err (Frm.head (x.take 24)).1 ((x.drop 24).take (Frm.head (x.take 24)).1.len)
  rw [go]
  simp only at e ⊢
  rw [e]
  simp only
  rw [if_neg hi.1, if_neg hi.2]
theorem go_fuel : ∀ (n : Nat) (x : List UInt8), x.length ≤ n → ∀ k, x.length < k → go k x = run x := by
  intro n
  induction n with
  | zero =>
    intro x hx k hk
    unfold run
    rw [go_short (by omega), go_short (by omega)]
  | succ n ih =>
    intro x hx k hk
    unfold run
    by_cases h : x.length < 24
    · rw [go_short h, go_short h]
    · have h' : 24 ≤ x.length := by omega
      obtain ⟨k, rfl⟩ : ∃ j, k = j + 1 := ⟨k - 1, by omega⟩
      by_cases he : (Frm.head (x.take 24)).2 = 0
      · by_cases hp : x.length - 24 < (Frm.head (x.take 24)).1.len
        · rw [go_part h' he hp, go_part h' he hp]
        · have hl : (x.drop (24 + (Frm.head (x.take 24)).1.len)).length = x.length - (24 + (Frm.head (x.take 24)).1.len) := List.length_drop
          rw [go_whole h' he (by omega), go_whole h' he (by omega), ih _ (by omega) k (by omega), ih _ (by omega) x.length (by omega)]
      · rw [go_bad h' he, go_bad h' he]
theorem run_short {x : List UInt8} (h : x.length < 24) : run x = ([], x, false) := go_short h _
theorem run_bad {x : List UInt8} (h : 24 ≤ x.length) (he : (Frm.head (x.take 24)).2 ≠ 0) : run x = ([⟨[], [], (Frm.head (x.take 24)).2⟩], [], true) := go_bad h he _
theorem run_part {x : List UInt8} (h : 24 ≤ x.length) (he : (Frm.head (x.take 24)).2 = 0) (hp : x.length - 24 < (Frm.head (x.take 24)).1.len) : run x = ([], x, false) := go_part h he hp _
theorem run_whole {x : List UInt8} (h : 24 ≤ x.length) (he : (Frm.head (x.take 24)).2 = 0) (hp : (Frm.head (x.take 24)).1.len ≤ x.length - 24) :
    run x = (item (Frm.head (x.take 24)).1 ((x.drop 24).take (Frm.head (x.take 24)).1.len) :: (run (x.drop (24 + (Frm.head (x.take 24)).1.len))).1, (run (x.drop (24 + (Frm.head (x.take 24)).1.len))).2) := by
  have hl : (x.drop (24 + (Frm.head (x.take 24)).1.len)).length = x.length - (24 + (Frm.head (x.take 24)).1.len) := List.length_drop
  have e := go_whole h he hp x.length
  rw [go_fuel _ _ (Nat.le_refl _) x.length (by omega)] at e
  exact e
/-- what waits is less than a whole frame -/
theorem run_rest : ∀ (n : Nat) (x : List UInt8), x.length ≤ n → ((run x).2.2 = true → (run x).2.1 = []) ∧
    ((run x).2.2 = false → (run x).2.1.length < 24 ∨ 24 ≤ (run x).2.1.length ∧ (Frm.head ((run x).2.1.take 24)).2 = 0 ∧ (run x).2.1.length - 24 < (Frm.head ((run x).2.1.take 24)).1.len) := by
  intro n
  induction n with
  | zero => intro x hx; rw [run_short (by omega)]; exact ⟨by simp, fun _ => .inl (by show x.length < 24; omega)⟩
  | succ n ih =>
    intro x hx
    by_cases h : x.length < 24
    · rw [run_short h]; exact ⟨by simp, fun _ => .inl h⟩
    · have h' : 24 ≤ x.length := by omega
      by_cases he : (Frm.head (x.take 24)).2 = 0
      · by_cases hp : x.length - 24 < (Frm.head (x.take 24)).1.len
        · rw [run_part h' he hp]; exact ⟨by simp, fun _ => .inr ⟨h', he, hp⟩⟩
        · rw [run_whole h' he (by omega)]
          exact ih _ (by rw [List.length_drop]; omega)
      · rw [run_bad h' he]; exact ⟨fun _ => rfl, by simp⟩
/-- in whatever pieces -/
theorem run_append : ∀ (n : Nat) (x y : List UInt8), x.length ≤ n → run (x ++ y) = ((run x).1 ++ (feed (run x).2 y).1, (feed (run x).2 y).2) := by
  intro n
  induction n with
  | zero =>
    intro x y hx
    have : x = [] := List.length_eq_zero_iff.1 (by omega)
    subst this
    rw [run_short (x := []) (by simp)]
    simp [feed]
  | succ n ih =>
    intro x y hx
    by_cases h : x.length < 24
    · rw [run_short h]; simp [feed]
    · have h' : 24 ≤ x.length := by omega
      have ht : (x ++ y).take 24 = x.take 24 := by rw [List.take_append_of_le_length h']
      have h2 : 24 ≤ (x ++ y).length := by rw [List.length_append]; omega
      by_cases he : (Frm.head (x.take 24)).2 = 0
      · by_cases hp : x.length - 24 < (Frm.head (x.take 24)).1.len
        · rw [run_part h' he hp]; simp [feed]
        · have hp' : (Frm.head (x.take 24)).1.len ≤ x.length - 24 := by omega
          rw [run_whole h' he hp', run_whole h2 (by rw [ht]; exact he) (by rw [ht, List.length_append]; omega), ht]
          have e1 : ((x ++ y).drop 24).take (Frm.head (x.take 24)).1.len = (x.drop 24).take (Frm.head (x.take 24)).1.len := by
            rw [List.drop_append_of_le_length h', List.take_append_of_le_length (by rw [List.length_drop]; omega)]
          have e2 : (x ++ y).drop (24 + (Frm.head (x.take 24)).1.len) = x.drop (24 + (Frm.head (x.take 24)).1.len) ++ y := by
            rw [List.drop_append_of_le_length (by omega)]
          rw [e1, e2, ih _ y (by rw [List.length_drop]; omega)]
          simp
      · rw [run_bad h' he, run_bad h2 (by rw [ht]; exact he), ht]
        simp [feed]
/-- all pieces, one behind the other -/
def feeds : List UInt8 × Bool → List (List UInt8) → Out
  | s, [] => ([], s)
  | s, b :: l => ((feed s b).1 ++ (feeds (feed s b).2 l).1, (feeds (feed s b).2 l).2)
def St (s : List UInt8 × Bool) : Prop := (s.2 = true → s.1 = []) ∧ (s.2 = false → run s.1 = ([], s.1, false))
theorem run_again (x : List UInt8) : St (run x).2 := by
  obtain ⟨h1, h2⟩ := run_rest _ x (Nat.le_refl _)
  refine ⟨h1, fun h => ?_⟩
  rcases h2 h with h3 | ⟨h3, h4, h5⟩
  · exact run_short h3
  · exact run_part h3 h4 h5
theorem feed_st {s : List UInt8 × Bool} (b : List UInt8) : St (feed s b).2 := by
  unfold feed
  by_cases h : s.2
  · rw [if_pos h]; exact ⟨fun _ => rfl, by simp⟩
  · rw [if_neg h]; exact run_again _
theorem feed_append {s : List UInt8 × Bool} (hs : St s) (x y : List UInt8) : feed s (x ++ y) = ((feed s x).1 ++ (feed (feed s x).2 y).1, (feed (feed s x).2 y).2) := by
  by_cases h : s.2
  · unfold feed
    simp [h]
  · have e : ∀ z, feed s z = run (s.1 ++ z) := fun z => by unfold feed; rw [if_neg h]
    rw [e, e, ← List.append_assoc]
    exact run_append _ _ y (Nat.le_refl _)
theorem feed_nil {s : List UInt8 × Bool} (hs : St s) : feed s [] = ([], s) := by
  unfold feed
  by_cases h : s.2
  · rw [if_pos h]; obtain ⟨a, b⟩ := s; simp only at h; subst h; have : a = [] := hs.1 rfl; rw [this]
  · rw [if_neg h, List.append_nil, hs.2 (by simpa using h)]; obtain ⟨a, b⟩ := s; simp only at h; simp [h]
theorem feeds_all {l : List (List UInt8)} : ∀ {s : List UInt8 × Bool}, St s → feeds s l = feed s l.flatten := by
  induction l with
  | nil => intro s hs; rw [List.flatten_nil, feed_nil hs]; rfl
  | cons b l ih =>
    intro s hs
    rw [List.flatten_cons, feed_append hs, feeds, ih (feed_st b)]
theorem st_nil : St ([], false) := ⟨by simp, fun _ => run_short (by simp)⟩
theorem run_get {x c b : List UInt8} {n : Nat} {e : Int} (h : Frm.get x = (c, b, n, e)) (h4 : e ≠ 4) (h65 : ¬ (e = 6 ∨ e = 5)) (hn : 0 < n) : run x = (⟨c, b, e⟩ :: (run (x.drop n)).1, (run (x.drop n)).2) := by
  have hx : 24 ≤ x.length := by
    rcases Nat.lt_or_ge x.length 24 with hl | hl
    · rw [get_short hl] at h
      simp only [Prod.mk.injEq] at h
      exact absurd h.2.2.2.symm h4
    · exact hl
  have hg : go (x.length + 1) x = (⟨c, b, e⟩ :: (go x.length (x.drop n)).1, (go x.length (x.drop n)).2) := by
    rw [go]
    simp only [h]
    rw [if_neg h4, if_neg h65]
  rw [go_fuel _ (x.drop n) (Nat.le_refl _) x.length (by rw [List.length_drop]; omega)] at hg
  exact hg
theorem run_put {cmd body : List UInt8} (h : Frm.named cmd = true) (hb : body.length ≤ 2048) (y : List UInt8) : run (Frm.put cmd body ++ y) = (⟨cmd, body, 0⟩ :: (run y).1, (run y).2) := by
  rw [run_get (Frm.get_put h hb y) (by decide) (by decide) (by omega), List.drop_append_of_le_length (by rw [Frm.put_len h]; omega), List.drop_of_length_le (by rw [Frm.put_len h]; omega), List.nil_append]
theorem run_waits (x : List UInt8) (h1 : (run x).1 = []) (h2 : (run x).2.2 = false) : run x = ([], x, false) := by
  by_cases h : x.length < 24
  · exact run_short h
  · have h' : 24 ≤ x.length := by omega
    by_cases he : (Frm.head (x.take 24)).2 = 0
    · by_cases hp : x.length - 24 < (Frm.head (x.take 24)).1.len
      · exact run_part h' he hp
      · rw [run_whole h' he (by omega)] at h1; cases h1
    · rw [run_bad h' he] at h1; cases h1
theorem rest_lt (x : List UInt8) : (run x).2.1.length < 2072 := by
  obtain ⟨h1, h2⟩ := run_rest _ x (Nat.le_refl _)
  cases hd : (run x).2.2 with
  | true => rw [h1 hd]; simp
  | false =>
    rcases h2 hd with h | ⟨h, he, hl⟩
    · omega
    · have := head_len he; omega
theorem feed_lt (s : List UInt8 × Bool) (b : List UInt8) : (feed s b).2.1.length < 2072 := by
  unfold feed
  by_cases h : s.2
  · rw [if_pos h]; simp
  · rw [if_neg h]; exact rest_lt _
end Go.Proofs.YtpacgblddeoheaaDoor.Flo
/- Rows of items, as they lie in memory. -/
namespace Go.Proofs.YtpacgblddeoheaaDoor
open Go.RowKit Go.Deep
set_option linter.unusedVariables false
set_option linter.unusedSimpArgs false
set_option maxRecDepth 100000
def itemCells (x : Flo.Item) (u : Value) : List Value := [.string ⟨x.cmd.toArray⟩, u, .int .i64 x.err]
def itemPair (p : Flo.Item × Value) : List Value := itemCells p.1 p.2
/-- bytes, in a block for which P -/
def KeyP (P : Nat → Prop) (w : World) (u : Value) (p : List UInt8) : Prop :=
  ∃ A cap, u = .slice A p.length cap ∧ p.length ≤ cap ∧ cap ≤ maxLen ∧ BytesAt w w.heap.size A p ∧ ∀ a, A = some a → P a.block ∧ a.block < w.heap.size
theorem KeyP.kp {P Q S : Nat → Prop} {w w' : World} {u : Value} {p : List UInt8} (h : KeyP P w u p) (hk : Kp S w w') (hS : ∀ i, P i → i < w.heap.size → ¬ S i ∧ Q i) : KeyP Q w' u p := by
  obtain ⟨A, cap, hu, h1, h2, h3, h4⟩ := h
  refine ⟨A, cap, hu, h1, h2, fun i hi => ?_, fun a ha => ⟨(hS _ (h4 a ha).1 (h4 a ha).2).2, Nat.lt_of_lt_of_le (h4 a ha).2 hk.size⟩⟩
  obtain ⟨b, off, vs, hA, hb, hR, hc⟩ := h3 i hi
  exact ⟨b, off, vs, hA, Nat.lt_of_lt_of_le hb hk.size, hR, fun j hj => (hk.cell (p := ⟨b, _, none⟩) hb (hS b (h4 _ hA).1 hb).1).trans (hc j hj)⟩
theorem KeyP.at_ {P : Nat → Prop} {w : World} {u : Value} {p : List UInt8} (h : KeyP P w u p) : ∃ A cap, u = .slice A p.length cap ∧ p.length ≤ cap ∧ cap ≤ maxLen ∧ BytesAt w w.heap.size A p := by
  obtain ⟨A, cap, hu, h1, h2, h3, _⟩ := h
  exact ⟨A, cap, hu, h1, h2, h3⟩
theorem KeyP.nil {P : Nat → Prop} {w : World} : KeyP P w (.slice none 0 0) [] := ⟨none, 0, rfl, Nat.le_refl _, by simp [maxLen], fun i hi => by simp at hi, fun a ha => by cases ha⟩
theorem own_kp2 {w w' : World} {base : Nat} {e : TypeId} {size : Nat} {v : Value} {n : Nat} {xs : List Value} {S : Nat → Prop} (h : w.ownsRow base e size v n xs) (hk : Kp S w w') (hS : ∀ i, v.ownBlock = some i → ¬ S i) : w'.ownsRow base e size v n xs := by
  refine ⟨h.1, ?_⟩
  rcases h.2 with h | ⟨g, cap, cur, hv, hb, hg, r⟩
  · exact .inl h
  · have hlt : g < w.heap.size := (Array.getElem?_eq_some_iff.1 hg).1
    exact .inr ⟨g, cap, cur, hv, hb, (hk.block g hlt (hS g (by rw [hv]; rfl))).trans hg, r⟩
theorem own_lt {w : World} {base : Nat} {e : TypeId} {size : Nat} {v : Value} {n : Nat} {xs : List Value} (h : w.ownsRow base e size v n xs) : ∀ i, v.ownBlock = some i → base ≤ i ∧ i < w.heap.size := fun i hi => h.lt i hi
/-- a row of items of one's own; their bodies lie in blocks for which P -/
def RowT (P : Nat → Prop) (base : Nat) (w : World) (v : Value) (l : List Flo.Item) : Prop :=
  ∃ us : List Value, us.length = l.length ∧ w.ownsRow base 90 3 v l.length ((l.zip us).flatMap itemPair) ∧ ∀ i (h : i < l.length), ∃ u, us[i]? = some u ∧ KeyP P w u l[i].body
theorem RowT.nil (P : Nat → Prop) (base : Nat) (w : World) : RowT P base w (.slice none 0 0) [] := ⟨[], rfl, World.ownsRow_nil _ _ _ _, fun i h => by simp at h⟩
theorem RowT.lt {P : Nat → Prop} {base : Nat} {w : World} {v : Value} {l : List Flo.Item} (h : RowT P base w v l) : ∀ i, v.ownBlock = some i → base ≤ i ∧ i < w.heap.size := by
  obtain ⟨us, _, h2, _⟩ := h
  exact own_lt h2
theorem RowT.kp {P Q S : Nat → Prop} {base : Nat} {w w' : World} {v : Value} {l : List Flo.Item} (h : RowT P base w v l) (hk : Kp S w w') (h1 : ∀ i, v.ownBlock = some i → ¬ S i) (h2 : ∀ i, P i → i < w.heap.size → ¬ S i ∧ Q i) : RowT Q base w' v l := by
  obtain ⟨us, e1, e2, e3⟩ := h
  exact ⟨us, e1, own_kp2 e2 hk h1, fun i hi => by obtain ⟨u, hu, hp⟩ := e3 i hi; exact ⟨u, hu, hp.kp hk h2⟩⟩
theorem RowT.mono {P : Nat → Prop} {base base' : Nat} {w : World} {v : Value} {l : List Flo.Item} (h : RowT P base w v l) (hb : base' ≤ base) : RowT P base' w v l := by
  obtain ⟨us, e1, e2, e3⟩ := h
  exact ⟨us, e1, own_mono e2 hb, e3⟩
theorem itemPair_len (p : Flo.Item × Value) : (itemPair p).length = 3 := rfl
theorem flat_len (z : List (Flo.Item × Value)) : (z.flatMap itemPair).length = z.length * 3 := by
  induction z with
  | nil => rfl
  | cons p z ih => rw [List.flatMap_cons, List.length_append, itemPair_len, ih, List.length_cons]; omega
/-- more items come behind -/
theorem RowT.push {P Q R : Nat → Prop} {base : Nat} {w w' : World} {v v' : Value} {us us2 : List Value} {l l2 : List Flo.Item} (h1 : us.length = l.length) (h3 : ∀ i (h : i < l.length), ∃ u, us[i]? = some u ∧ KeyP P w u l[i].body)
    (k1 : us2.length = l2.length) (k3 : ∀ i (h : i < l2.length), ∃ u, us2[i]? = some u ∧ KeyP Q w u l2[i].body)
    (hrow : w'.ownsRow base 90 3 v' (l.length + l2.length) ((l.zip us).flatMap itemPair ++ (l2.zip us2).flatMap itemPair)) (hg : w.grownBy w' v.ownBlock) (hat : v'.ownBlock = v.ownBlock ∨ v'.ownBlock = some w.heap.size)
    (hP : ∀ i, P i → i < w.heap.size → v.ownBlock ≠ some i ∧ (v'.ownBlock ≠ some i → R i)) (hQ : ∀ i, Q i → i < w.heap.size → v.ownBlock ≠ some i ∧ (v'.ownBlock ≠ some i → R i)) : RowT R base w' v' (l ++ l2) := by
  have hk : Kp (fun i => v.ownBlock = some i) w w' := (Kp.refl _ w).grown hg (fun k hk _ => hk)
  have hne : ∀ i, i < w.heap.size → v.ownBlock ≠ some i → v'.ownBlock ≠ some i := fun i hi h e => by
    rcases hat with h' | h' <;> rw [h'] at e
    · exact h e
    · have := Option.some.inj e; omega
  refine ⟨us ++ us2, by simp [h1, k1], ?_, fun i hi => ?_⟩
  · rw [List.zip_append h1.symm, List.flatMap_append, List.length_append]
    exact hrow
  · rcases Nat.lt_or_ge i l.length with h | h
    · obtain ⟨u, hu, hp⟩ := h3 i h
      rw [List.getElem_append_left h]
      exact ⟨u, by rw [List.getElem?_append_left (by omega)]; exact hu, hp.kp hk fun j hj hl => ⟨(hP j hj hl).1, (hP j hj hl).2 (hne j hl (hP j hj hl).1)⟩⟩
    · have hi2 : i - l.length < l2.length := by rw [List.length_append] at hi; omega
      obtain ⟨u, hu, hp⟩ := k3 _ hi2
      rw [List.getElem_append_right h]
      exact ⟨u, by rw [List.getElem?_append_right (by omega), h1]; exact hu, hp.kp hk fun j hj hl => ⟨(hQ j hj hl).1, (hQ j hj hl).2 (hne j hl (hQ j hj hl).1)⟩⟩
/-- how an item lies in memory -/
def IsItem (w : World) (B : Nat) (vs : List Value) (x : Flo.Item) : Prop := ∃ A cap, vs = itemCells x (.slice A x.body.length cap) ∧ x.body.length ≤ cap ∧ cap ≤ maxLen ∧ BytesAt w B A x.body
abbrev ItemsAt (w : World) (B : Nat) (A : Option Addr) (l : List Flo.Item) : Prop := At 3 (IsItem w B) w B A l
theorem ItemsAt.below {w w' : World} {B : Nat} {A : Option Addr} {l : List Flo.Item} (h : ItemsAt w B A l) (hb : Below B w w') : ItemsAt w' B A l := by
  intro i hi
  obtain ⟨b, off, vs, hA, hlt, ⟨A', cap, rfl, h1, h2, h3⟩, hc⟩ := h i hi
  exact ⟨b, off, _, hA, hlt, ⟨A', cap, rfl, h1, h2, At.below h3 hb⟩, fun j hj => (hb.cell (p := ⟨b, _, none⟩) hlt).trans (hc j hj)⟩
theorem RowT.at_ {P : Nat → Prop} {base : Nat} {w : World} {v : Value} {l : List Flo.Item} (h : RowT P base w v l) : ∃ A cap, v = .slice A l.length cap ∧ l.length ≤ cap ∧ cap ≤ maxLen ∧ ItemsAt w w.heap.size A l := by
  obtain ⟨us, h1, h2, h3⟩ := h
  obtain ⟨A, cap, hv, hn, hm, hA, hc⟩ := own_form h2
  have hzl : (l.zip us).length = l.length := by rw [List.length_zip, h1, Nat.min_self]
  refine ⟨A, cap, hv, hn, hm, fun i hi => ?_⟩
  obtain ⟨u, hu, A', cap', rfl, k1, k2, k3, _⟩ := h3 i hi
  have hz : (l.zip us)[i]'(by omega) = (l[i], .slice A' l[i].body.length cap') := by
    rw [List.getElem_zip]
    rw [List.getElem?_eq_some_iff] at hu
    obtain ⟨_, hu⟩ := hu
    rw [hu]
  have hcell : ∀ j (hj : j < 3), ∃ b, A = some ⟨b, 0, none⟩ ∧ base ≤ b ∧ b < w.heap.size ∧ w.cell? ⟨b, i * 3 + j, none⟩ = some ((itemCells l[i] (.slice A' l[i].body.length cap'))[j]'(by simpa [itemCells] using hj)) := fun j hj =>
    hc (i * 3 + j) _ (by
      rw [flatMap_index (l.zip us) (fun p _ => itemPair_len p) i (by omega) j hj, hz]
      unfold itemPair
      rw [List.getElem?_eq_getElem])
  obtain ⟨b, hA, _, hlt, _⟩ := hcell 0 (by omega)
  refine ⟨b, 0, _, hA, hlt, ⟨A', cap', rfl, k1, k2, k3⟩, fun j hj => ?_⟩
  obtain ⟨b', hA', _, _, hcj⟩ := hcell j hj
  rw [hA] at hA'
  injection hA' with hA'
  injection hA' with hA' _
  subst hA'
  rw [Nat.zero_add]
  exact hcj
theorem itemCells_one (x : Flo.Item) (A : Option Addr) (m c : Nat) : ∀ u ∈ itemCells x (.slice A m c), u.oneCell' = true := by
  intro u hu
  simp only [itemCells, List.mem_cons, List.not_mem_nil, or_false] at hu
  rcases hu with rfl | rfl | rfl <;> rfl
theorem item_info : (Tryd.prog.info? 90).map (fun i => (i.zero, i.size, i.bytes)) = some (some (.agg #[.string ⟨#[]⟩, .slice none 0 0, .int .i64 0]), 3, 48) := by kernel_rfl
end Go.Proofs.YtpacgblddeoheaaDoor
/- Package flow: New, Waits, Dead, whole. -/
namespace Go.Proofs.YtpacgblddeoheaaDoor
open Go.RowKit Go.Deep
set_option linter.unusedVariables false
set_option linter.unusedSimpArgs false
set_option maxRecDepth 100000
attribute [local go_sem ↓] Go.wp_at_zero Go.wp_at_succ

def flowTail (n : Nat) (h : Frm.Head) (body : Value) (dead : Bool) : List Value := [.int .i64 (n : Int), .string ⟨h.cmd.toArray⟩, .int .i64 (h.len : Int), .int .u32 (h.sum : Int), body, .bool dead]
def flowCells (hd : List UInt8) (tl : List Value) : List Value := hd.map byteV ++ tl
def noHead : Frm.Head := ⟨[], 0, 0⟩
theorem flow_cell {w : World} {F T : Nat} {hd : List UInt8} {tl : List Value} (h : Bk w F T (flowCells hd tl).toArray) (hl : hd.length = 24) (k : Nat) : w.cell? ⟨F, 24 + k, none⟩ = tl[k]? := by
  rw [h.cell]
  simp only [flowCells, List.getElem?_toArray]
  rw [List.getElem?_append_right (by simp [hl])]
  simp [hl]
theorem flow_set {w : World} {F T : Nat} {hd : List UInt8} {tl : List Value} (h : Bk w F T (flowCells hd tl).toArray) (hl : hd.length = 24) (k : Nat) (v : Value) : Bk (w.setCell ⟨F, 24 + k, none⟩ v) F T (flowCells hd (tl.set k v)).toArray := by
  have := h.set (24 + k) v
  have e : (flowCells hd tl).toArray.setIfInBounds (24 + k) v = (flowCells hd (tl.set k v)).toArray := by
    simp only [flowCells, List.setIfInBounds_toArray]
    rw [List.set_append_right _ _ (by simp [hl])]
    simp [hl]
  rwa [e] at this
theorem flow_tail {w : World} {F T n : Nat} {hd : List UInt8} {h : Frm.Head} {body : Value} {dead : Bool} (hk : Bk w F T (flowCells hd (flowTail n h body dead)).toArray) (hl : hd.length = 24) :
    w.cell? ⟨F, 24, none⟩ = some (.int .i64 (n : Int)) ∧ w.cell? ⟨F, 25, none⟩ = some (.string ⟨h.cmd.toArray⟩) ∧ w.cell? ⟨F, 26, none⟩ = some (.int .i64 (h.len : Int)) ∧ w.cell? ⟨F, 27, none⟩ = some (.int .u32 (h.sum : Int)) ∧
    w.cell? ⟨F, 28, none⟩ = some body ∧ w.cell? ⟨F, 29, none⟩ = some (.bool dead) :=
  ⟨flow_cell hk hl 0, flow_cell hk hl 1, flow_cell hk hl 2, flow_cell hk hl 3, flow_cell hk hl 4, flow_cell hk hl 5⟩
theorem kp_cell1 (w : World) (g o : Nat) (v : Value) : Kp (fun i => i = g) w (w.setCell ⟨g, o, none⟩ v) := (Kp.refl (fun i => i = g) w).setCell (p := ⟨g, o, none⟩) (fun _ => rfl) v
theorem flowNew_any (w : World) : Calls Tryd.prog 31 #[] w fun e w' => e = .returned (.pointer (some ⟨w.heap.size, 0, none⟩)) ∧ Bk w' w.heap.size 121 (flowCells (List.replicate 24 0) (flowTail 0 noHead (.slice none 0 0) false)).toArray ∧ w'.heap.size = w.heap.size + 1 ∧ Below w.heap.size w w' := by
  go_enter Tryd.func31, Tryd.ntmps31
  go_wp2_with fail
  go_ret
  exact ⟨rfl, Bk.new _ _ _, by simp, Joins.below_alloc1 _ _⟩
theorem whole_end {w w3 : World} {F : Nat} {hd : List UInt8} {hv : Frm.Head} {v : Value} (hl : hd.length = 24) (hlt : F < w.heap.size) (hk : Kp (fun i => i = F) w w3) (kF : Bk w3 F 121 (flowCells hd (flowTail 24 hv v false)).toArray)
    {x y z : Value} (k2 : Bk w3 w.heap.size 90 #[x, y, z]) (a b c : Value) :
    let W := (((((((w3.setCell ⟨F, 24, none⟩ (.int .i64 0)).setCell ⟨F, 25, none⟩ (.string ⟨#[]⟩)).setCell ⟨F, 26, none⟩ (.int .i64 0)).setCell ⟨F, 27, none⟩ (.int .u32 0)).setCell ⟨F, 28, none⟩ (.slice none 0 0)).setCell ⟨w.heap.size, 0, none⟩ a).setCell ⟨w.heap.size, 1, none⟩ b).setCell ⟨w.heap.size, 2, none⟩ c
    Bk W F 121 (flowCells hd (flowTail 0 noHead (.slice none 0 0) false)).toArray ∧ Bk W w.heap.size 90 #[a, b, c] ∧ Kp (fun i => i = F) w W := by
  intro W
  have hne : F ≠ w.heap.size := by omega
  refine ⟨?_, ?_, ?_⟩
  · have h1 := flow_set (flow_set (flow_set (flow_set (flow_set kF hl 0 (.int .i64 0)) hl 1 (.string ⟨#[]⟩)) hl 2 (.int .i64 0)) hl 3 (.int .u32 0)) hl 4 (.slice none 0 0)
    exact ((Bk.far h1 (p := ⟨w.heap.size, 0, none⟩) hne a).far (p := ⟨w.heap.size, 1, none⟩) hne b).far (p := ⟨w.heap.size, 2, none⟩) hne c
  · have h2 := ((((k2.far (p := ⟨F, 24, none⟩) hne.symm (.int .i64 0)).far (p := ⟨F, 25, none⟩) hne.symm (.string ⟨#[]⟩)).far (p := ⟨F, 26, none⟩) hne.symm (.int .i64 0)).far (p := ⟨F, 27, none⟩) hne.symm (.int .u32 0)).far (p := ⟨F, 28, none⟩) hne.symm (.slice none 0 0)
    exact ((h2.set 0 a).set 1 b).set 2 c
  · exact (((((((hk.setCell (p := ⟨F, 24, none⟩) (fun _ => rfl) _).setCell (p := ⟨F, 25, none⟩) (fun _ => rfl) _).setCell (p := ⟨F, 26, none⟩) (fun _ => rfl) _).setCell (p := ⟨F, 27, none⟩) (fun _ => rfl) _).setCell (p := ⟨F, 28, none⟩) (fun _ => rfl) _).setCell (p := ⟨w.heap.size, 0, none⟩) (fun h => absurd h (Nat.lt_irrefl _)) _).setCell (p := ⟨w.heap.size, 1, none⟩) (fun h => absurd h (Nat.lt_irrefl _)) _).setCell (p := ⟨w.heap.size, 2, none⟩) (fun h => absurd h (Nat.lt_irrefl _)) _
theorem item_size : (Tryd.prog.info? 90).map (·.size) = some 3 := by kernel_rfl
set_option maxHeartbeats 2000000 in
theorem whole_any (F : Nat) (hd : List UInt8) (hv : Frm.Head) (A : Option Addr) (n c B : Nat) (body : List UInt8) (w : World) (hk : Bk w F 121 (flowCells hd (flowTail 24 hv (.slice A n c) false)).toArray) (hl : hd.length = 24) (hlay : Laid w)
    (hb : BytesAt w B A body) (hB : B ≤ w.heap.size) (hbl : body.length = n) (hc : n ≤ c) (hm : c ≤ maxLen) (hs : n ≤ 2048) (hsum : hv.sum < 4294967296) :
    Calls Tryd.prog 51 #[.pointer (some ⟨F, 0, none⟩)] w fun e w' => ∃ u, e = .returned (.agg (itemCells (Flo.item hv body) u).toArray) ∧ (u = .slice A n c ∧ (Flo.item hv body).body = body ∨ u = .slice none 0 0 ∧ (Flo.item hv body).body = []) ∧
      Bk w' F 121 (flowCells hd (flowTail 0 noHead (.slice none 0 0) false)).toArray ∧ Kp (fun i => i = F) w w' := by
  obtain ⟨c0, c1, c2, c3, c4, c5⟩ := flow_tail hk hl
  have HK := Lib.hid hk
  have HL := Lib.hid hl
  have HLAY := Lib.hid hlay
  have HLT := hk.lt
  have hse := str_empty ⟨hv.cmd.toArray⟩
  have f24 := hk.frozen 24
  have f25 := hk.frozen 25
  have f26 := hk.frozen 26
  have f27 := hk.frozen 27
  have f28 := hk.frozen 28
  obtain ⟨cmd, len, sum⟩ := hv
  simp only at c1 c2 c3 hse hsum
  clear hk hl hlay
  go_enter Tryd.func51, Tryd.ntmps51
  go_wp2_with fail
  go_region_held3 (fun w' => w'.cell? ⟨F, 25, none⟩ = some (.string ⟨cmd.toArray⟩) ∧ w'.cell? ⟨F, 28, none⟩ = some (.slice A n c)) (go_keep) (fail)
  obtain ⟨w2, hw2⟩ : ∃ w2, w2 = ((w.alloc (.cells #[.string ⟨#[]⟩, .slice none 0 0, .int .i64 0] 90)).alloc (.cells #[.string ⟨cmd.toArray⟩, .slice A n c, .int .i64 0] 90)).drew := ⟨_, rfl⟩
  rw [← hw2]
  have k2 : Bk w2 w.heap.size 90 #[.string ⟨#[]⟩, .slice none 0 0, .int .i64 0] := by rw [hw2]; exact ((Bk.new _ _ _).alloc _).drew
  have k3 : Bk w2 (w.heap.size + 1) 90 #[.string ⟨cmd.toArray⟩, .slice A n c, .int .i64 0] := by
    rw [hw2]
    have := Bk.new (w.alloc (.cells #[.string ⟨#[]⟩, .slice none 0 0, .int .i64 0] 90)) 90 #[.string ⟨cmd.toArray⟩, .slice A n c, .int .i64 0]
    rw [show (w.alloc (.cells #[.string ⟨#[]⟩, .slice none 0 0, .int .i64 0] 90)).heap.size = w.heap.size + 1 by simp] at this
    exact this.drew
  have b2 : Below w.heap.size w w2 := by rw [hw2]; exact below_drewN (((Below.refl _ _).alloc (Nat.le_refl _) _).alloc (by simp) _) 1
  have kF := HK.out.below b2 HLT
  have e0 : w2.cell? ⟨w.heap.size + 1, 0, none⟩ = some (.string ⟨cmd.toArray⟩) := (k3.cell 0).trans rfl
  have fr := k3.frozen
  have fr2 := k2.frozen
  have frF := kF.frozen
  clear c0 c1 c2 c3 c4 c5 f24 f25 f26 f27 f28 hw2
  obtain ⟨c0, c1, c2, c3, c4, c5⟩ := flow_tail kF HL.out
  have e1 : w2.cell? ⟨w.heap.size + 1, 1, none⟩ = some (.slice A n c) := (k3.cell 1).trans rfl
  have e2 : w2.cell? ⟨w.heap.size + 1, 2, none⟩ = some (.int .i64 0) := (k3.cell 2).trans rfl
  have d0 : w2.cell? ⟨w.heap.size, 0, none⟩ = some (.string ⟨#[]⟩) := (k2.cell 0).trans rfl
  have d1 : w2.cell? ⟨w.heap.size, 1, none⟩ = some (.slice none 0 0) := (k2.cell 1).trans rfl
  have d2 : w2.cell? ⟨w.heap.size, 2, none⟩ = some (.int .i64 0) := (k2.cell 2).trans rfl
  have n1 : ¬ (w.heap.size + 1 = F) := by omega
  have n2 : ¬ (w.heap.size = F) := by omega
  have n3 : ¬ (F = w.heap.size + 1) := by omega
  have n4 : ¬ (F = w.heap.size) := by omega
  have K2 := Lib.hid k2
  have K3 := Lib.hid k3
  have KF := Lib.hid kF
  have B2 := Lib.hid b2
  clear k2 k3 kF b2
  by_cases hcm : cmd = []
  · have hse' : cmd.isEmpty = true := by simpa using hcm
    have HCM := Lib.hid hcm
    clear hse hcm
    go_wp2_with fail
    have hit : Flo.item ⟨cmd, len, sum⟩ body = ⟨[], [], 8⟩ := by unfold Flo.item; rw [if_pos HCM.out]
    obtain ⟨g1, g2, g3⟩ := whole_end HL.out HLT (((Kp.of_below B2.out).setCell (p := ⟨w.heap.size + 1, 0, none⟩) (fun h => absurd h (by show ¬ w.heap.size + 1 < _; omega)) (.string ⟨#[]⟩)).setCell (p := ⟨w.heap.size + 1, 1, none⟩) (fun h => absurd h (by show ¬ w.heap.size + 1 < _; omega)) (.slice none 0 0) |>.setCell (p := ⟨w.heap.size + 1, 2, none⟩) (fun h => absurd h (by show ¬ w.heap.size + 1 < _; omega)) (.int .i64 8))
      (((KF.out.far (p := ⟨w.heap.size + 1, 0, none⟩) n3 (.string ⟨#[]⟩)).far (p := ⟨w.heap.size + 1, 1, none⟩) n3 (.slice none 0 0)).far (p := ⟨w.heap.size + 1, 2, none⟩) n3 (.int .i64 8))
      (((K2.out.far (p := ⟨w.heap.size + 1, 0, none⟩) (by show w.heap.size ≠ w.heap.size + 1; omega) (.string ⟨#[]⟩)).far (p := ⟨w.heap.size + 1, 1, none⟩) (by show w.heap.size ≠ w.heap.size + 1; omega) (.slice none 0 0)).far (p := ⟨w.heap.size + 1, 2, none⟩) (by show w.heap.size ≠ w.heap.size + 1; omega) (.int .i64 8)) (.string ⟨#[]⟩) (.slice none 0 0) (.int .i64 8)
    refine bodyPost_ret (results_cell_row rfl _ _ w.heap.size 90 #[.string ⟨#[]⟩, .slice none 0 0, .int .i64 8] (0, 0) _ rfl g2 Tryd.underlying90 rfl item_size) rfl ?_
    rw [hit]
    exact ⟨.slice none 0 0, rfl, .inr ⟨rfl, rfl⟩, g1, g3⟩
  · have hse' : cmd.isEmpty = false := by simpa using hcm
    have HCM := Lib.hid hcm
    have LF2 : F < w2.heap.size := KF.out.lt
    have hck := fun i => check_any A c B body (w2.drewN i) (HLAY.out.below (below_drewN B2.out i)) (hb.below (below_drewN (B2.out.mono hB) i)) (Nat.le_trans hB B2.out.size) (by omega) hm (by omega)
    rw [hbl] at hck
    obtain ⟨x, hx⟩ : ∃ x, x = (Sha.check body).toNat := ⟨_, rfl⟩
    rw [← hx] at hck
    have HCK := Lib.hid hck
    have HX := Lib.hid hx
    clear hse hcm hck hx
    go_upto_region 4 with (fail)
    go_region_held3 (fun w' => w'.cell? ⟨F, 27, none⟩ = some (.int .u32 (sum : Int)) ∧ w'.cell? ⟨F, 28, none⟩ = some (.slice A n c)) (first | go_keep | exact ⟨(hb3.cell (p := ⟨F, 27, none⟩) LF2).trans c3, (hb3.cell (p := ⟨F, 28, none⟩) LF2).trans c4⟩) ((go_at_call 69; refine (HCK.out _).mono ?_; rintro e w' ⟨rfl, hb3⟩))
    have B3 := Lib.hid ((below_drewN B2.out 1).trans (hb3.mono B2.out.size))
    have K4 := Lib.hid ((K2.out.drewN 1).below hb3 (K2.out.lt))
    have K5 := Lib.hid ((K3.out.drewN 1).below hb3 (K3.out.lt))
    have KF3 := Lib.hid ((KF.out.drewN 1).below hb3 LF2)
    obtain ⟨w3, hw3⟩ : ∃ w3, w3 = w' := ⟨_, rfl⟩
    rw [← hw3] at B3 K4 K5 KF3 ⊢
    clear hb3 hw3 c0 c1 c2 c3 c4 c5 e0 e1 e2 d0 d1 d2 fr fr2 frF LF2 KF K3 K2 B2 HCK
    obtain ⟨c0, c1, c2, c3, c4, c5⟩ := flow_tail KF3.out HL.out
    have e0 : w3.cell? ⟨w.heap.size + 1, 0, none⟩ = some (.string ⟨cmd.toArray⟩) := (K5.out.cell 0).trans rfl
    have e1 : w3.cell? ⟨w.heap.size + 1, 1, none⟩ = some (.slice A n c) := (K5.out.cell 1).trans rfl
    have e2 : w3.cell? ⟨w.heap.size + 1, 2, none⟩ = some (.int .i64 0) := (K5.out.cell 2).trans rfl
    have d0 : w3.cell? ⟨w.heap.size, 0, none⟩ = some (.string ⟨#[]⟩) := (K4.out.cell 0).trans rfl
    have d1 : w3.cell? ⟨w.heap.size, 1, none⟩ = some (.slice none 0 0) := (K4.out.cell 1).trans rfl
    have d2 : w3.cell? ⟨w.heap.size, 2, none⟩ = some (.int .i64 0) := (K4.out.cell 2).trans rfl
    have fr := K5.out.frozen
    have fr2 := K4.out.frozen
    have frF := KF3.out.frozen
    by_cases hxs : x = sum
    · have hxs' : ((x : Int) != (sum : Int)) = false := by rw [bne_eq_false_iff_eq]; omega
      have hit : Flo.item ⟨cmd, len, sum⟩ body = ⟨cmd, body, 0⟩ := by unfold Flo.item; rw [if_neg HCM.out, if_neg (by rw [← HX.out, hxs]; simp)]
      have HIT := Lib.hid hit
      clear hxs hit
      go_wp2_with fail
      obtain ⟨g1, g2, g3⟩ := whole_end HL.out HLT (Kp.of_below B3.out) KF3.out K4.out (.string ⟨cmd.toArray⟩) (.slice A n c) (.int .i64 0)
      refine bodyPost_ret (results_cell_row rfl _ _ w.heap.size 90 #[.string ⟨cmd.toArray⟩, .slice A n c, .int .i64 0] (0, 0) _ rfl g2 Tryd.underlying90 rfl item_size) rfl ?_
      rw [HIT.out]
      exact ⟨.slice A n c, rfl, .inl ⟨rfl, rfl⟩, g1, g3⟩
    · have hxs' : ((x : Int) != (sum : Int)) = true := by rw [bne_iff_ne]; omega
      have hit : Flo.item ⟨cmd, len, sum⟩ body = ⟨[], [], 7⟩ := by unfold Flo.item; rw [if_neg HCM.out, if_pos (by rw [← HX.out]; exact hxs)]
      have HIT := Lib.hid hit
      clear hxs hit
      go_wp2_with fail
      obtain ⟨g1, g2, g3⟩ := whole_end HL.out HLT (((Kp.of_below B3.out).setCell (p := ⟨w.heap.size + 1, 0, none⟩) (fun h => absurd h (by show ¬ w.heap.size + 1 < _; omega)) (.string ⟨#[]⟩)).setCell (p := ⟨w.heap.size + 1, 1, none⟩) (fun h => absurd h (by show ¬ w.heap.size + 1 < _; omega)) (.slice none 0 0) |>.setCell (p := ⟨w.heap.size + 1, 2, none⟩) (fun h => absurd h (by show ¬ w.heap.size + 1 < _; omega)) (.int .i64 7))
        (((KF3.out.far (p := ⟨w.heap.size + 1, 0, none⟩) n3 (.string ⟨#[]⟩)).far (p := ⟨w.heap.size + 1, 1, none⟩) n3 (.slice none 0 0)).far (p := ⟨w.heap.size + 1, 2, none⟩) n3 (.int .i64 7))
        (((K4.out.far (p := ⟨w.heap.size + 1, 0, none⟩) (by show w.heap.size ≠ w.heap.size + 1; omega) (.string ⟨#[]⟩)).far (p := ⟨w.heap.size + 1, 1, none⟩) (by show w.heap.size ≠ w.heap.size + 1; omega) (.slice none 0 0)).far (p := ⟨w.heap.size + 1, 2, none⟩) (by show w.heap.size ≠ w.heap.size + 1; omega) (.int .i64 7)) (.string ⟨#[]⟩) (.slice none 0 0) (.int .i64 7)
      refine bodyPost_ret (results_cell_row rfl _ _ w.heap.size 90 #[.string ⟨#[]⟩, .slice none 0 0, .int .i64 7] (0, 0) _ rfl g2 Tryd.underlying90 rfl item_size) rfl ?_
      rw [HIT.out]
      exact ⟨.slice none 0 0, rfl, .inr ⟨rfl, rfl⟩, g1, g3⟩
end Go.Proofs.YtpacgblddeoheaaDoor
