/- Package flow, in plain Lean: items out of a row of bytes. -/
import Derived.Test.YteebehmmfkapgaaDoorFrameLaws
namespace Go.Proofs.YteebehmmfkapgaaDoor.Flo
set_option linter.unusedVariables false
set_option linter.unusedSimpArgs false
structure Item where
  cmd : List UInt8
  body : List UInt8
  err : Int
/-- what is told of bytes, what waits, whether it is dead -/
abbrev Out := List Item × List UInt8 × Bool
def go : Nat → List UInt8 → Out
  | 0, x => ([], x, false)
  | k + 1, x =>
    let g := Frm.get x
    if g.2.2.2 = 4 then ([], x, false)
    else if g.2.2.2 = 6 ∨ g.2.2.2 = 5 then ([⟨[], [], g.2.2.2⟩], [], true)
    else
      let r := go k (x.drop g.2.2.1)
      (⟨g.1, g.2.1, g.2.2.2⟩ :: r.1, r.2)
def run (x : List UInt8) : Out := go (x.length + 1) x
def feed (s : List UInt8 × Bool) (b : List UInt8) : Out := if s.2 then ([], [], true) else run (s.1 ++ b)
/-- the item of a frame whose head says h -/
def item (h : Frm.Head) (body : List UInt8) : Item := if h.cmd = [] then ⟨[], [], 8⟩ else if (Sha.check body).toNat ≠ h.sum then ⟨[], [], 7⟩ else ⟨h.cmd, body, 0⟩
theorem head_err {b : List UInt8} (hl : b.length = 24) : (Frm.head b).2 = 0 ∨ (Frm.head b).2 = 6 ∨ (Frm.head b).2 = 5 := by
  unfold Frm.head
  rw [if_neg (by omega)]
  by_cases h1 : b.take 4 ≠ Frm.magic
  · rw [if_pos h1]; exact .inr (.inl rfl)
  · rw [if_neg h1]
    by_cases h2 : 2048 < Oct.val ((b.drop 16).take 4)
    · rw [if_pos h2]; exact .inr (.inr rfl)
    · rw [if_neg h2]; exact .inl rfl
theorem head_len {b : List UInt8} (h : (Frm.head b).2 = 0) : (Frm.head b).1.len ≤ 2048 := by
  unfold Frm.head at h ⊢
  by_cases h0 : b.length ≠ 24
  · rw [if_pos h0] at h; exact absurd h (by decide)
  · rw [if_neg h0] at h ⊢
    by_cases h1 : b.take 4 ≠ Frm.magic
    · rw [if_pos h1] at h; exact absurd h (by decide)
    · rw [if_neg h1] at h ⊢
      by_cases h2 : 2048 < Oct.val ((b.drop 16).take 4)
      · rw [if_pos h2] at h; exact absurd h (by decide)
      · rw [if_neg h2]; exact Nat.le_of_not_lt h2
theorem head_sum {b : List UInt8} : (Frm.head b).1.sum < 4294967296 := by
  unfold Frm.head
  by_cases h0 : b.length ≠ 24
  · rw [if_pos h0]; decide
  · rw [if_neg h0]
    by_cases h1 : b.take 4 ≠ Frm.magic
    · rw [if_pos h1]; decide
    · rw [if_neg h1]
      by_cases h2 : 2048 < Oct.val ((b.drop 16).take 4)
      · rw [if_pos h2]; decide
      · rw [if_neg h2]
        have := Oct.val_lt (b.drop 20)
        have hl : (b.drop 20).length = 4 := by rw [List.length_drop]; omega
        rw [hl] at this
        exact this
theorem get_short {x : List UInt8} (h : x.length < 24) : Frm.get x = ([], [], 0, 4) := by unfold Frm.get; rw [if_pos h]
theorem get_bad {x : List UInt8} (h : 24 ≤ x.length) (he : (Frm.head (x.take 24)).2 ≠ 0) : Frm.get x = ([], [], 0, (Frm.head (x.take 24)).2) := by
  unfold Frm.get; rw [if_neg (by omega)]; simp only; rw [if_pos he]
theorem get_part {x : List UInt8} (h : 24 ≤ x.length) (he : (Frm.head (x.take 24)).2 = 0) (hp : x.length - 24 < (Frm.head (x.take 24)).1.len) : Frm.get x = ([], [], 0, 4) := by
  unfold Frm.get; rw [if_neg (by omega)]; simp only; rw [if_neg (by simp [he]), if_pos hp]
theorem get_whole {x : List UInt8} (h : 24 ≤ x.length) (he : (Frm.head (x.take 24)).2 = 0) (hp : (Frm.head (x.take 24)).1.len ≤ x.length - 24) :
    let i := item (Frm.head (x.take 24)).1 ((x.drop 24).take (Frm.head (x.take 24)).1.len)
    Frm.get x = (i.cmd, i.body, 24 + (Frm.head (x.take 24)).1.len, i.err) := by
  intro i
  have e : Frm.get x = if (Frm.head (x.take 24)).1.cmd = [] then ([], [], 24 + (Frm.head (x.take 24)).1.len, 8) else if (Sha.check ((x.drop 24).take (Frm.head (x.take 24)).1.len)).toNat ≠ (Frm.head (x.take 24)).1.sum then ([], [], 24 + (Frm.head (x.take 24)).1.len, 7)
      else ((Frm.head (x.take 24)).1.cmd, (x.drop 24).take (Frm.head (x.take 24)).1.len, 24 + (Frm.head (x.take 24)).1.len, 0) := by
    unfold Frm.get
    rw [if_neg (show ¬ x.length < 24 by omega)]
    simp only
    rw [if_neg (show ¬ ((Frm.head (x.take 24)).2 ≠ 0) by simp [he]), if_neg (show ¬ (x.length - 24 < (Frm.head (x.take 24)).1.len) by omega)]
  have ei : i = item (Frm.head (x.take 24)).1 ((x.drop 24).take (Frm.head (x.take 24)).1.len) := rfl
  rw [e, ei]
  unfold item
  by_cases h1 : (Frm.head (x.take 24)).1.cmd = []
  · rw [if_pos h1, if_pos h1]
  · rw [if_neg h1, if_neg h1]
    by_cases h2 : (Sha.check ((x.drop 24).take (Frm.head (x.take 24)).1.len)).toNat ≠ (Frm.head (x.take 24)).1.sum
    · rw [if_pos h2, if_pos h2]
    · rw [if_neg h2, if_neg h2]
theorem item_err (h : Frm.Head) (body : List UInt8) : (item h body).err ≠ 4 ∧ ¬ ((item h body).err = 6 ∨ (item h body).err = 5) := by
  unfold item
  by_cases h1 : h.cmd = []
  · rw [if_pos h1]; exact ⟨by simp, by simp⟩
  · rw [if_neg h1]
    by_cases h2 : (Sha.check body).toNat ≠ h.sum
    · rw [if_pos h2]; exact ⟨by simp, by simp⟩
    · rw [if_neg h2]; exact ⟨by simp, by simp⟩
/-! ### four ways -/
theorem go_short {x : List UInt8} (h : x.length < 24) (k : Nat) : go k x = ([], x, false) := by
  cases k with
  | zero => rfl
  | succ k => unfold go; rw [get_short h]; rfl
theorem go_bad {x : List UInt8} (h : 24 ≤ x.length) (he : (Frm.head (x.take 24)).2 ≠ 0) (k : Nat) : go (k + 1) x = ([⟨[], [], (Frm.head (x.take 24)).2⟩], [], true) := by
  unfold go
  rw [get_bad h he]
  have hl : (x.take 24).length = 24 := by rw [List.length_take]; omega
  simp only
  rcases head_err hl with h0 | h0 | h0
  · exact absurd h0 he
  · rw [if_neg (by rw [h0]; decide), if_pos (.inl h0)]
  · rw [if_neg (by rw [h0]; decide), if_pos (.inr h0)]
theorem go_part {x : List UInt8} (h : 24 ≤ x.length) (he : (Frm.head (x.take 24)).2 = 0) (hp : x.length - 24 < (Frm.head (x.take 24)).1.len) (k : Nat) : go k x = ([], x, false) := by
  cases k with
  | zero => rfl
  | succ k => unfold go; rw [get_part h he hp]; rfl
theorem go_whole {x : List UInt8} (h : 24 ≤ x.length) (he : (Frm.head (x.take 24)).2 = 0) (hp : (Frm.head (x.take 24)).1.len ≤ x.length - 24) (k : Nat) :
    go (k + 1) x = (item (Frm.head (x.take 24)).1 ((x.drop 24).take (Frm.head (x.take 24)).1.len) :: (go k (x.drop (24 + (Frm.head (x.take 24)).1.len))).1, (go k (x.drop (24 + (Frm.head (x.take 24)).1.len))).2) := by
  have e := get_whole h he hp
  have hi := item_err (Frm.head (x.take 24)).1 ((x.drop 24).take (Frm.head (x.take 24)).1.len)
  rw [go]
  simp only at e ⊢
  rw [e]
  simp only
  rw [if_neg hi.1, if_neg hi.2]
theorem go_fuel : ∀ (n : Nat) (x : List UInt8), x.length ≤ n → ∀ k, x.length < k → go k x = run x := by
  intro n
  induction n with
  | zero =>
    intro x hx k hk
    unfold run
    rw [go_short (by omega), go_short (by omega)]
  | succ n ih =>
    intro x hx k hk
    unfold run
    by_cases h : x.length < 24
    · rw [go_short h, go_short h]
    · have h' : 24 ≤ x.length := by omega
      obtain ⟨k, rfl⟩ : ∃ j, k = j + 1 := ⟨k - 1, by omega⟩
      by_cases he : (Frm.head (x.take 24)).2 = 0
      · by_cases hp : x.length - 24 < (Frm.head (x.take 24)).1.len
        · rw [go_part h' he hp, go_part h' he hp]
        · have hl : (x.drop (24 + (Frm.head (x.take 24)).1.len)).length = x.length - (24 + (Frm.head (x.take 24)).1.len) := List.length_drop
          rw [go_whole h' he (by omega), go_whole h' he (by omega), ih _ (by omega) k (by omega), ih _ (by omega) x.length (by omega)]
      · rw [go_bad h' he, go_bad h' he]
theorem run_short {x : List UInt8} (h : x.length < 24) : run x = ([], x, false) := go_short h _
theorem run_bad {x : List UInt8} (h : 24 ≤ x.length) (he : (Frm.head (x.take 24)).2 ≠ 0) : run x = ([⟨[], [], (Frm.head (x.take 24)).2⟩], [], true) := go_bad h he _
theorem run_part {x : List UInt8} (h : 24 ≤ x.length) (he : (Frm.head (x.take 24)).2 = 0) (hp : x.length - 24 < (Frm.head (x.take 24)).1.len) : run x = ([], x, false) := go_part h he hp _
theorem run_whole {x : List UInt8} (h : 24 ≤ x.length) (he : (Frm.head (x.take 24)).2 = 0) (hp : (Frm.head (x.take 24)).1.len ≤ x.length - 24) :
    run x = (item (Frm.head (x.take 24)).1 ((x.drop 24).take (Frm.head (x.take 24)).1.len) :: (run (x.drop (24 + (Frm.head (x.take 24)).1.len))).1, (run (x.drop (24 + (Frm.head (x.take 24)).1.len))).2) := by
  have hl : (x.drop (24 + (Frm.head (x.take 24)).1.len)).length = x.length - (24 + (Frm.head (x.take 24)).1.len) := List.length_drop
  have e := go_whole h he hp x.length
  rw [go_fuel _ _ (Nat.le_refl _) x.length (by omega)] at e
  exact e
/-- what waits is less than a whole frame -/
theorem run_rest : ∀ (n : Nat) (x : List UInt8), x.length ≤ n → ((run x).2.2 = true → (run x).2.1 = []) ∧
    ((run x).2.2 = false → (run x).2.1.length < 24 ∨ 24 ≤ (run x).2.1.length ∧ (Frm.head ((run x).2.1.take 24)).2 = 0 ∧ (run x).2.1.length - 24 < (Frm.head ((run x).2.1.take 24)).1.len) := by
  intro n
  induction n with
  | zero => intro x hx; rw [run_short (by omega)]; exact ⟨by simp, fun _ => .inl (by show x.length < 24; omega)⟩
  | succ n ih =>
    intro x hx
    by_cases h : x.length < 24
    · rw [run_short h]; exact ⟨by simp, fun _ => .inl h⟩
    · have h' : 24 ≤ x.length := by omega
      by_cases he : (Frm.head (x.take 24)).2 = 0
      · by_cases hp : x.length - 24 < (Frm.head (x.take 24)).1.len
        · rw [run_part h' he hp]; exact ⟨by simp, fun _ => .inr ⟨h', he, hp⟩⟩
        · rw [run_whole h' he (by omega)]
          exact ih _ (by rw [List.length_drop]; omega)
      · rw [run_bad h' he]; exact ⟨fun _ => rfl, by simp⟩
/-- in whatever pieces -/
theorem run_append : ∀ (n : Nat) (x y : List UInt8), x.length ≤ n → run (x ++ y) = ((run x).1 ++ (feed (run x).2 y).1, (feed (run x).2 y).2) := by
  intro n
  induction n with
  | zero =>
    intro x y hx
    have : x = [] := List.length_eq_zero_iff.1 (by omega)
    subst this
    rw [run_short (x := []) (by simp)]
    simp [feed]
  | succ n ih =>
    intro x y hx
    by_cases h : x.length < 24
    · rw [run_short h]; simp [feed]
    · have h' : 24 ≤ x.length := by omega
      have ht : (x ++ y).take 24 = x.take 24 := by rw [List.take_append_of_le_length h']
      have h2 : 24 ≤ (x ++ y).length := by rw [List.length_append]; omega
      by_cases he : (Frm.head (x.take 24)).2 = 0
      · by_cases hp : x.length - 24 < (Frm.head (x.take 24)).1.len
        · rw [run_part h' he hp]; simp [feed]
        · have hp' : (Frm.head (x.take 24)).1.len ≤ x.length - 24 := by omega
          rw [run_whole h' he hp', run_whole h2 (by rw [ht]; exact he) (by rw [ht, List.length_append]; omega), ht]
          have e1 : ((x ++ y).drop 24).take (Frm.head (x.take 24)).1.len = (x.drop 24).take (Frm.head (x.take 24)).1.len := by
            rw [List.drop_append_of_le_length h', List.take_append_of_le_length (by rw [List.length_drop]; omega)]
          have e2 : (x ++ y).drop (24 + (Frm.head (x.take 24)).1.len) = x.drop (24 + (Frm.head (x.take 24)).1.len) ++ y := by
            rw [List.drop_append_of_le_length (by omega)]
          rw [e1, e2, ih _ y (by rw [List.length_drop]; omega)]
          simp
      · rw [run_bad h' he, run_bad h2 (by rw [ht]; exact he), ht]
        simp [feed]
/-- all pieces, one behind the other -/
def feeds : List UInt8 × Bool → List (List UInt8) → Out
  | s, [] => ([], s)
  | s, b :: l => ((feed s b).1 ++ (feeds (feed s b).2 l).1, (feeds (feed s b).2 l).2)
def St (s : List UInt8 × Bool) : Prop := (s.2 = true → s.1 = []) ∧ (s.2 = false → run s.1 = ([], s.1, false))
theorem run_again (x : List UInt8) : St (run x).2 := by
  obtain ⟨h1, h2⟩ := run_rest _ x (Nat.le_refl _)
  refine ⟨h1, fun h => ?_⟩
  rcases h2 h with h3 | ⟨h3, h4, h5⟩
  · exact run_short h3
  · exact run_part h3 h4 h5
theorem feed_st {s : List UInt8 × Bool} (b : List UInt8) : St (feed s b).2 := by
  unfold feed
  by_cases h : s.2
  · rw [if_pos h]; exact ⟨fun _ => rfl, by simp⟩
  · rw [if_neg h]; exact run_again _
theorem feed_append {s : List UInt8 × Bool} (hs : St s) (x y : List UInt8) : feed s (x ++ y) = ((feed s x).1 ++ (feed (feed s x).2 y).1, (feed (feed s x).2 y).2) := by
  by_cases h : s.2
  · unfold feed
    simp [h]
  · have e : ∀ z, feed s z = run (s.1 ++ z) := fun z => by unfold feed; rw [if_neg h]
    rw [e, e, ← List.append_assoc]
    exact run_append _ _ y (Nat.le_refl _)
theorem feed_nil {s : List UInt8 × Bool} (hs : St s) : feed s [] = ([], s) := by
  unfold feed
  by_cases h : s.2
  · rw [if_pos h]; obtain ⟨a, b⟩ := s; simp only at h; subst h; have : a = [] := hs.1 rfl; rw [this]
  · rw [if_neg h, List.append_nil, hs.2 (by simpa using h)]; obtain ⟨a, b⟩ := s; simp only at h; simp [h]
theorem feeds_all {l : List (List UInt8)} : ∀ {s : List UInt8 × Bool}, St s → feeds s l = feed s l.flatten := by
  induction l with
  | nil => intro s hs; rw [List.flatten_nil, feed_nil hs]; rfl
  | cons b l ih =>
    intro s hs
    rw [List.flatten_cons, feed_append hs, feeds, ih (feed_st b)]
theorem st_nil : St ([], false) := ⟨by simp, fun _ => run_short (by simp)⟩
theorem run_get {x c b : List UInt8} {n : Nat} {e : Int} (h : Frm.get x = (c, b, n, e)) (h4 : e ≠ 4) (h65 : ¬ (e = 6 ∨ e = 5)) (hn : 0 < n) : run x = (⟨c, b, e⟩ :: (run (x.drop n)).1, (run (x.drop n)).2) := by
  have hx : 24 ≤ x.length := by
    rcases Nat.lt_or_ge x.length 24 with hl | hl
    · rw [get_short hl] at h
      simp only [Prod.mk.injEq] at h
      exact absurd h.2.2.2.symm h4
    · exact hl
  have hg : go (x.length + 1) x = (⟨c, b, e⟩ :: (go x.length (x.drop n)).1, (go x.length (x.drop n)).2) := by
    rw [go]
    simp only [h]
    rw [if_neg h4, if_neg h65]
  rw [go_fuel _ (x.drop n) (Nat.le_refl _) x.length (by rw [List.length_drop]; omega)] at hg
  exact hg
theorem run_put {cmd body : List UInt8} (h : Frm.named cmd = true) (hb : body.length ≤ 2048) (y : List UInt8) : run (Frm.put cmd body ++ y) = (⟨cmd, body, 0⟩ :: (run y).1, (run y).2) := by
  rw [run_get (Frm.get_put h hb y) (by decide) (by decide) (by omega), List.drop_append_of_le_length (by rw [Frm.put_len h]; omega), List.drop_of_length_le (by rw [Frm.put_len h]; omega), List.nil_append]
theorem run_waits (x : List UInt8) (h1 : (run x).1 = []) (h2 : (run x).2.2 = false) : run x = ([], x, false) := by
  by_cases h : x.length < 24
  · exact run_short h
  · have h' : 24 ≤ x.length := by omega
    by_cases he : (Frm.head (x.take 24)).2 = 0
    · by_cases hp : x.length - 24 < (Frm.head (x.take 24)).1.len
      · exact run_part h' he hp
      · rw [run_whole h' he (by omega)] at h1; cases h1
    · rw [run_bad h' he] at h1; cases h1
theorem rest_lt (x : List UInt8) : (run x).2.1.length < 2072 := by
  obtain ⟨h1, h2⟩ := run_rest _ x (Nat.le_refl _)
  cases hd : (run x).2.2 with
  | true => rw [h1 hd]; simp
  | false =>
    rcases h2 hd with h | ⟨h, he, hl⟩
    · omega
    · have := head_len he; omega
theorem feed_lt (s : List UInt8 × Bool) (b : List UInt8) : (feed s b).2.1.length < 2072 := by
  unfold feed
  by_cases h : s.2
  · rw [if_pos h]; simp
  · rw [if_neg h]; exact rest_lt _
end Go.Proofs.YteebehmmfkapgaaDoor.Flo
