/- The walks of the score laws themselves. -/
import Derived.Test.YtmghjghjnolfoaaScoreActs
import Derived.Lib.SmallJoins
namespace Go.Proofs.Ytmghjghjnolfoaa
open Go.RowKit Go.Deep
set_option linter.unusedVariables false
attribute [local go_sem ↓] Go.wp_at_zero Go.wp_at_succ

set_option maxHeartbeats 400000 in
theorem scoreCosts_walk (w : World) (e : Int) (_we : (Lit.int .i64 e).wf = true) :
    Calls Try.prog 3 #[.int .i64 e] w fun r w' => r = .returned (.bool true) ∧ Below w.heap.size w w' := by
  go_enter Try.func3, Try.ntmps3
  go_wp2_with (first
    | (go_at_call 9; refine (alive_any _).mono ?_; rintro e w1 ⟨rfl, hb⟩)
    | (go_at_call 10; refine (cost_any _ _).mono ?_; rintro e w' ⟨rfl, rfl⟩)
    | (go_at_call 11; refine (refcost_any _ _).mono ?_; rintro e w' ⟨rfl, rfl⟩))
  go_ret
  exact ⟨rfl, hb⟩

/-- the readings of a slice of acts -/
theorem isAct_open {H : Type} {enc : TypeId × Value → H} {W : World} (n : Nat) (cs : List Value) (x : DataW H × List MemPlace) (hl : cs.length = 4)
    (h : DataW.trod enc Try.prog W 0 (fun _ => true) true n 35 cs = some x) : ∃ y : ActD, IsAct cs y := by
  obtain ⟨xs, m, _, _, _, hlen, hf⟩ := DataW.trod_struct Try.underlying35 h
  obtain ⟨k, e0, _⟩ := field_int hf hlen 0 _ rfl (by kernel_rfl) (by rw [hl]; decide) Try.underlying3
  obtain ⟨p, e1, _⟩ := field_int hf hlen 1 _ rfl (by kernel_rfl) (by rw [hl]; decide) Try.underlying3
  obtain ⟨q, e2, _⟩ := field_int hf hlen 2 _ rfl (by kernel_rfl) (by rw [hl]; decide) Try.underlying3
  obtain ⟨t, e3, ht⟩ := field_int hf hlen 3 _ rfl (by kernel_rfl) (by rw [hl]; decide) Try.underlying30
  match cs, hl with
  | [c0, c1, c2, c3], _ =>
    simp at e0 e1 e2 e3
    subst e0 e1 e2 e3
    exact ⟨⟨k, p, q, t⟩, wf_u64 ht, rfl⟩

set_option maxHeartbeats 1000000 in
theorem scoreBelow_walk (w : World) (A : Option Addr) (n cap : Nat) (l : List ActD) (hl : l.length = n) (_hc : n ≤ cap) (hm : cap ≤ maxLen) (hat : At 4 IsAct w w.heap.size A l) (p : Int) (_wp : (Lit.int .i64 p).wf = true) :
    Calls Try.prog 4 #[.slice A n cap, .int .i64 p] w fun r w' => r = .returned (.bool true) ∧ Below w.heap.size w w' := by
  subst hl
  unfold maxLen at hm
  by_cases h1000 : 1000 < l.length
  · go_enter Try.func4, Try.ntmps4
    go_wp2_with (go_at_call 9; refine (alive_any _).mono ?_; rintro e w1 ⟨rfl, hb⟩)
    go_ret
    exact ⟨rfl, hb⟩
  · have gok := grownF_ok (ActsAt.ok hat)
    go_enter Try.func4, Try.ntmps4
    go_wp2_with (first
      | (go_at_call 9; refine (alive_any _).mono ?_; rintro e w1 ⟨rfl, hb⟩)
      | (go_at_call 12; refine (grown_any _ l A cap (by omega) ((hat.below hb).mono hb.size)).mono ?_; rintro e w2 ⟨b, rfl, hb0, hB, hb2⟩))
    have hb3 : Below w.heap.size w w2 := hb.trans (hb2.mono hb.size)
    clear hb hb2 hat
    go_loop [14] (fun i => ∃ k : Nat, k ≤ 64 ∧ i = .int .i64 k) (fun i => 64 - (intOf i).toNat)
    case atStart => exact ⟨0, by omega, rfl⟩
    case round =>
      obtain ⟨k, hk, rfl⟩ := hrel
      by_cases h64 : k < 64
      · have o0 := (gok k h64).p0
        have o1 := (gok k h64).p1
        have es : scoreOf (grownF l) k = (grownF l k).pts := by simp [scoreOf]; omega
        generalize (grownF l k).pts = x at *
        go_wp2_with (go_at_call 13; refine (score_any b k w2 _ hB).mono ?_; rintro e w' ⟨rfl, rfl⟩)
        go_round
        case rel => exact ⟨k + 1, by omega, by go_num⟩
        case measure => simp [intOf]; omega
      · by_cases hp : 0 ≤ p ∧ p < 64
        · obtain ⟨hp0, hp1⟩ := hp
          go_wp2
          go_ret
          exact ⟨rfl, hb3⟩
        · have e1 : scoreOf (grownF l) p = 0 := by unfold scoreOf; rw [if_neg hp]
          have e2 : untilOf (grownF l) p = 0 := by unfold untilOf; rw [if_neg hp]
          rcases Int.lt_or_le p 0 with hn | hn
          · clear hp
            go_wp2_with (first
              | (go_at_call 13; refine (score_any b p w2 _ hB).mono ?_; rintro e w' ⟨rfl, rfl⟩)
              | (go_at_call 14; refine (until_any b p w2 _ hB).mono ?_; rintro e w' ⟨rfl, rfl⟩)
              | (go_at_call 15; refine (banned_any b p w2 _ _ (by omega) hB).mono ?_; rintro e w' ⟨rfl, rfl⟩))
            go_ret
            exact ⟨rfl, hb3⟩
          · have hn' : 64 ≤ p := by omega
            clear hp
            go_wp2_with (first
              | (go_at_call 13; refine (score_any b p w2 _ hB).mono ?_; rintro e w' ⟨rfl, rfl⟩)
              | (go_at_call 14; refine (until_any b p w2 _ hB).mono ?_; rintro e w' ⟨rfl, rfl⟩)
              | (go_at_call 15; refine (banned_any b p w2 _ _ (by omega) hB).mono ?_; rintro e w' ⟨rfl, rfl⟩))
            go_ret
            exact ⟨rfl, hb3⟩

/-! ### What others do -/
theorem stepAct_other {f g : Lines} {a : ActD} {p : Int} (h : a.peer ≠ p) (e : f p.toNat = g p.toNat) : (stepAct f a) p.toNat = g p.toNat ∨ ¬ (0 ≤ p ∧ p < 64) := by
  by_cases hp : 0 ≤ p ∧ p < 64
  · left
    unfold stepAct blF fgF
    (repeat' split) <;> first | exact e | (rw [setLine_other _ _ _ (by omega)]; exact e)
  · exact .inr hp
theorem stepAct_own {f g : Lines} {a : ActD} {p : Int} (h : a.peer = p) (e : f p.toNat = g p.toNat) : (stepAct f a) p.toNat = (stepAct g a) p.toNat := by
  subst h
  unfold stepAct blF fgF
  (repeat' split) <;> first | exact e | (rw [setLine_same, setLine_same, e])
theorem grown_apart (p : Int) (hp : 0 ≤ p ∧ p < 64) (l : List ActD) : ∀ f g : Lines, f p.toNat = g p.toNat → (l.foldl stepAct f) p.toNat = ((l.filter fun a => a.peer == p).foldl stepAct g) p.toNat := by
  induction l with
  | nil => intro f g h; exact h
  | cons a l ih =>
    intro f g h
    by_cases e : a.peer = p
    · rw [List.filter_cons_of_pos (by simpa using e), List.foldl_cons, List.foldl_cons]
      exact ih _ _ (stepAct_own e h)
    · rw [List.filter_cons_of_neg (by simpa using e), List.foldl_cons]
      exact ih _ _ ((stepAct_other e h).resolve_right (fun x => x hp))
theorem score_apart (p : Int) (l : List ActD) : scoreOf (grownF l) p = scoreOf (grownF (l.filter fun a => a.peer == p)) p ∧ untilOf (grownF l) p = untilOf (grownF (l.filter fun a => a.peer == p)) p := by
  unfold scoreOf untilOf
  by_cases hp : 0 ≤ p ∧ p < 64
  · rw [if_pos hp, if_pos hp, if_pos hp, if_pos hp]
    unfold grownF
    rw [grown_apart p hp l _ _ rfl]
    exact ⟨rfl, rfl⟩
  · rw [if_neg hp, if_neg hp, if_neg hp, if_neg hp]
    exact ⟨rfl, rfl⟩
theorem setLine_til {f : Lines} {p i : Nat} {l : Line} (h : (f p).til ≤ l.til) : (f i).til ≤ (setLine f p l i).til := by
  by_cases e : i = p
  · subst e; rw [setLine_same]; exact h
  · rw [setLine_other _ _ _ e]; exact Int.le_refl _
theorem blF_til (f : Lines) (p pts now : Int) (i : Nat) : (f i).til ≤ (blF f p pts now i).til := by
  unfold blF
  split
  · apply setLine_til
    unfold blLine
    split <;> simp <;> omega
  · exact Int.le_refl _
theorem fgF_til (f : Lines) (p : Int) (i : Nat) : (f i).til ≤ (fgF f p i).til := by
  unfold fgF
  split
  · exact setLine_til (Int.le_refl _)
  · exact Int.le_refl _

/-- an act's cells -/
def actCells (a : ActD) : List Value := [.int .i64 a.kind, .int .i64 a.peer, .int .i64 a.pts, .int .u64 a.now]
def peerIs (p : Int) (a : ActD) : Bool := a.peer == p
theorem filter_take_succ {α : Type} (f : α → Bool) (l : List α) (k : Nat) (h : k < l.length) : (l.take (k + 1)).filter f = (l.take k).filter f ++ (if f l[k] then [l[k]] else []) := by
  rw [List.take_succ_eq_append_getElem h, List.filter_append]
  simp [List.filter_cons]
/-- the acts of one peer, so far -/
structure Own (w0 : World) (l : List ActD) (A : Option Addr) (p : Int) (v : Value) (k : Nat) (w : World) : Prop where
  le : k ≤ l.length
  acts : ActsAt w w0.heap.size A l
  below : Below w0.heap.size w0 w
  row : w.ownsRow w0.heap.size 35 4 v ((l.take k).filter (peerIs p)).length (((l.take k).filter (peerIs p)).flatMap actCells)
theorem Own.keep {w0 w : World} {l : List ActD} {A : Option Addr} {p : Int} {v : Value} {k : Nat} (g : Own w0 l A p v k w) (hk : k < l.length) (hp : (l[k].peer == p) = false) (o : Obj) : Own w0 l A p v (k + 1) (w.alloc o) := by
  have e : (l.take (k + 1)).filter (peerIs p) = (l.take k).filter (peerIs p) := by rw [filter_take_succ _ _ _ hk, if_neg (by simpa [peerIs] using hp), List.append_nil]
  refine ⟨hk, g.acts.below ((Below.refl _ _).alloc g.below.size o), g.below.alloc g.below.size o, ?_⟩
  rw [e]
  exact g.row.alloc o
theorem Own.add {w0 w w2 : World} {l : List ActD} {A : Option Addr} {p : Int} {v v' : Value} {k : Nat} {o o' : Obj} (g : Own w0 l A p v k w) (hk : k < l.length) (hp : (l[k].peer == p) = true)
    (hr : w2.ownsRow w0.heap.size 35 4 v' (((l.take k).filter (peerIs p)).length + 1) (((l.take k).filter (peerIs p)).flatMap actCells ++ actCells l[k]))
    (hg : ((w.alloc o).alloc o').grownBy w2 v.ownBlock) : Own w0 l A p v' (k + 1) w2 := by
  have e : (l.take (k + 1)).filter (peerIs p) = (l.take k).filter (peerIs p) ++ [l[k]] := by rw [filter_take_succ _ _ _ hk, if_pos (by simpa [peerIs] using hp)]
  have hb1 : Below w0.heap.size w w2 := (((Below.refl w0.heap.size w).alloc g.below.size o).alloc (by simp; have := g.below.size; omega) o').grown hg (by simp; have := g.below.size; omega) (fun j hj => (g.row.lt j hj).1)
  refine ⟨hk, g.acts.below hb1, g.below.trans hb1, ?_⟩
  rw [e, List.length_append, List.flatMap_append, List.length_singleton, List.flatMap_singleton]
  exact hr
theorem act_info : (Try.prog.info? 35).map (fun i => (i.zero, i.size, i.bytes)) = some (some (.agg #[.int .i64 0, .int .i64 0, .int .i64 0, .int .u64 0]), 4, 32) := by kernel_rfl
set_option maxHeartbeats 1000000 in
theorem scoreApart_walk (w : World) (A : Option Addr) (n cap : Nat) (l : List ActD) (hl : l.length = n) (_hc : n ≤ cap) (hm : cap ≤ maxLen) (hat : At 4 IsAct w w.heap.size A l) (p : Int) (_wp : (Lit.int .i64 p).wf = true) :
    Calls Try.prog 5 #[.slice A n cap, .int .i64 p] w fun r w' => r = .returned (.bool true) ∧ Below w.heap.size w w' := by
  subst hl
  unfold maxLen at hm
  by_cases h1000 : 1000 < l.length
  · go_enter Try.func5, Try.ntmps5
    go_wp2_with (go_at_call 9; refine (alive_any _).mono ?_; rintro e w1 ⟨rfl, hb⟩)
    go_ret
    exact ⟨rfl, hb⟩
  · obtain ⟨i0, hi, hz0, hz1, hz2⟩ := info_parts act_info
    have Hi := Lib.hid hi
    have Hz := Lib.hid hz0
    have Hz1 := Lib.hid hz1
    have Hz2 := Lib.hid hz2
    clear hi hz0 hz1 hz2
    go_enter Try.func5, Try.ntmps5
    go_wp2_with (go_at_call 9; refine (alive_any _).mono ?_; rintro e w1 ⟨rfl, hb⟩)
    go_loopw [5, 17] (fun v i wr => ∃ k : Nat, i = .int .i64 k ∧ Own w l A p v k wr) (fun _ i _ => l.length - (intOf i).toNat)
    case atStart => exact ⟨0, rfl, Nat.zero_le _, hat.below hb, hb, by simpa using World.ownsRow_nil _ _ _ _⟩
    case round =>
      obtain ⟨k, rfl, g⟩ := hrel
      have gle := g.le
      by_cases hk : k < l.length
      · obtain ⟨q, off, rfl, hq, aok, c1, c2, c3, c4⟩ := g.acts.cells hk
        have G := Lib.hid g
        have hrow := g.row
        have hlen : ((l.take k).filter (peerIs p)).length ≤ 1000 := Nat.le_trans (List.length_filter_le _ _) (by rw [List.length_take]; omega)
        have hsz := g.below.size
        clear g hat hb
        go_wp2_with (at_builtin; refine wpList_app _ rfl (.tmp 25) (.tmp 27) _ rfl w.heap.size 35 i0 _ 4 32 Try.underlying26 Hi.out Hz.out Hz1.out Hz2.out rfl (by decide) u5 _ _ rfl ((hrow.alloc _).alloc _) (some ⟨wr.heap.size + 1, 0, none⟩) 1 1 (actCells l[k]) rfl rfl (Src.at_ _ _ _ _ _ (by simp) rfl) (by simp [actCells, Value.oneCell']) (by unfold maxLen; omega) (by omega) (by simp; omega) ?_; intro v' w2 hrow2 hg2 _)
        all_goals go_roundw
        case rel => exact ⟨k + 1, by go_num, G.out.add hk (by assumption) hrow2 hg2⟩
        case measure => simp [intOf]; omega
        case rel => exact ⟨k + 1, by go_num, G.out.keep hk (by assumption) _⟩
        case measure => simp [intOf]; omega
      · obtain rfl : k = l.length := by omega
        have hrow := g.row
        rw [List.take_length] at hrow
        obtain ⟨A2, cap2, rfl, _, hcap, _, hown⟩ := At.of_own (R := IsAct) actCells (l := l.filter (peerIs p)) (fun x hx => ⟨rfl, g.acts.ok x ((List.mem_filter.1 hx).1), rfl⟩) (by omega) hrow
        have hl2 : (l.filter (peerIs p)).length ≤ l.length := List.length_filter_le _ _
        have hacts := g.acts
        have hbel := g.below
        have hap := score_apart p l
        have Hs := Lib.hid hap.1
        have Hu := Lib.hid hap.2
        clear g hrow hap hat hb gle hcap
        go_wp2_with fail
        refine (grown_any _ l A cap (by omega) (hacts.mono hbel.size)).mono ?_
        rintro e w2 ⟨b, rfl, hb0, hB, hb2⟩
        go_wp2_with fail
        refine (grown_any _ (l.filter (peerIs p)) A2 cap2 (by omega) ((hown.below hb2).mono hb2.size)).mono ?_
        rintro e w3 ⟨c, rfl, hc0, hC, hb3⟩
        have hB3 : IsBook w3 b (grownF l) := hB.kp (Kp.of_below (S := fun _ => False) hb3) (fun x => x)
        have hbel3 : Below w.heap.size w w3 := (hbel.trans (hb2.mono hbel.size)).trans (hb3.mono (Nat.le_trans hbel.size hb2.size))
        have hs' : (scoreOf (grownF l) p == scoreOf (grownF (l.filter (peerIs p))) p) = true := by rw [Hs.out]; exact beq_self_eq_true _
        have hu' : (untilOf (grownF l) p == untilOf (grownF (l.filter (peerIs p))) p) = true := by rw [Hu.out]; exact beq_self_eq_true _
        clear hb2 hb3 hacts hown hB hb0 hc0
        go_wp2_with (first
          | (go_at_call_of 13 b; refine (score_any b p w3 _ hB3).mono ?_; rintro e w' ⟨rfl, rfl⟩)
          | (go_at_call_of 13 c; refine (score_any c p w3 _ hC).mono ?_; rintro e w' ⟨rfl, rfl⟩)
          | (go_at_call_of 14 b; refine (until_any b p w3 _ hB3).mono ?_; rintro e w' ⟨rfl, rfl⟩)
          | (go_at_call_of 14 c; refine (until_any c p w3 _ hC).mono ?_; rintro e w' ⟨rfl, rfl⟩))
        go_ret
        exact ⟨rfl, hbel3⟩

/-! ### Who is banned stays so -/
def stepMore (f : Lines) (a : ActD) : Lines := if a.kind = 0 then blF f a.peer a.pts a.now else fgF f a.peer
theorem stepMore_ok {f : Lines} (h : OkLines f) {a : ActD} (ha : a.Ok) : OkLines (stepMore f a) := by
  unfold stepMore
  split
  · exact blF_ok h _ _ _ ha.1
  · exact fgF_ok h _
theorem stepMore_til (f : Lines) (a : ActD) (i : Nat) : (f i).til ≤ (stepMore f a i).til := by
  unfold stepMore
  split
  · exact blF_til _ _ _ _ _
  · exact fgF_til _ _ _
theorem until_mono {f g : Lines} (h : ∀ i, (f i).til ≤ (g i).til) (p : Int) : untilOf f p ≤ untilOf g p := by
  unfold untilOf
  split
  · exact h _
  · exact Int.le_refl _
def moreF (f : Lines) (l : List ActD) : Lines := l.foldl stepMore f
theorem moreF_take (f : Lines) (l : List ActD) (k : Nat) (h : k < l.length) : moreF f (l.take (k + 1)) = stepMore (moreF f (l.take k)) l[k] := by
  unfold moreF
  rw [List.take_succ_eq_append_getElem h, List.foldl_append]
  rfl
structure More (w0 : World) (f : Lines) (l : List ActD) (A : Option Addr) (b k : Nat) (w : World) : Prop where
  le : k ≤ l.length
  new : w0.heap.size ≤ b
  book : IsBook w b (moreF f (l.take k))
  ok : OkLines (moreF f (l.take k))
  til : ∀ i, (f i).til ≤ (moreF f (l.take k) i).til
  acts : ActsAt w w0.heap.size A l
  below : Below w0.heap.size w0 w
theorem More.step {w0 w w2 : World} {f0 : Lines} {l : List ActD} {A : Option Addr} {b k : Nat} {f : Lines} {o : Obj} (g : More w0 f0 l A b k w) (hk : k < l.length)
    (e : stepMore (moreF f0 (l.take k)) l[k] = f) (hB : IsBook w2 b f) (hK : Kp (· = b) (w.alloc o) w2) : More w0 f0 l A b (k + 1) w2 := by
  have hK' : Kp (· = b) w w2 := ((Kp.refl (· = b) w).alloc o).trans hK
  have hn := g.new
  have he := moreF_take f0 l k hk
  refine ⟨hk, g.new, ?_, ?_, ?_, g.acts.kp hK' g.below.size (fun i hi e' => by omega), Kp.from_elder g.below hK' (fun i hi e' => by omega)⟩
  · rw [he, e]; exact hB
  · rw [he]; exact stepMore_ok g.ok (g.acts.ok _ (List.getElem_mem hk))
  · intro i; rw [he]; exact Int.le_trans (g.til i) (stepMore_til _ _ i)
theorem stepMore_0 {f : Lines} {a : ActD} (h : (a.kind == 0) = true) : stepMore f a = blF f a.peer a.pts a.now := by
  unfold stepMore; rw [if_pos (by simpa using h)]
theorem stepMore_1 {f : Lines} {a : ActD} (h0 : (a.kind == 0) = false) : stepMore f a = fgF f a.peer := by
  unfold stepMore; rw [if_neg (by simpa using h0)]

set_option maxHeartbeats 2000000 in
theorem scoreStays_walk (w : World) (A : Option Addr) (n cap : Nat) (l : List ActD) (hl : l.length = n) (hm : n ≤ maxLen) (hat : At 4 IsAct w w.heap.size A l)
    (A' : Option Addr) (n' cap' : Nat) (l' : List ActD) (hl' : l'.length = n') (hm' : n' ≤ maxLen) (hat' : At 4 IsAct w w.heap.size A' l') (p : Int) (_wp : (Lit.int .i64 p).wf = true) (now : Int) (wn : (Lit.int .u64 now).wf = true) :
    Calls Try.prog 6 #[.agg #[.slice A n cap, .slice A' n' cap'], .int .i64 p, .int .u64 now] w fun r w' => r = .returned (.bool true) ∧ Below w.heap.size w w' := by
  subst hl; subst hl'
  unfold maxLen at hm hm'
  obtain ⟨hn0, hn1⟩ := wf_u64 wn
  clear wn _wp
  have hb0 : Below w.heap.size w (w.alloc (.cells #[.slice A l.length cap, .slice A' l'.length cap'] 37)) := (Below.refl _ _).alloc (Nat.le_refl _) _
  go_enter Try.func6, Try.ntmps6
  go_wp2_with fail
  refine (alive_any _).mono ?_
  rintro e w1 ⟨rfl, hb⟩
  have hc0 : w1.cell? ⟨w.heap.size, 0, none⟩ = some (.slice A l.length cap) := by rw [hb.cell (by simp)]; go_simp
  have hc1 : w1.cell? ⟨w.heap.size, 1, none⟩ = some (.slice A' l'.length cap') := by rw [hb.cell (by simp)]; go_simp
  have hbw : Below w.heap.size w w1 := hb0.trans (hb.mono hb0.size)
  clear hb hb0
  by_cases h1000 : 1000 < l.length
  · go_wp2_with fail
    go_quiet (fail)
    go_wp2_with fail
    go_ret
    exact ⟨rfl, below_drewN hbw _⟩
  by_cases h1000' : 1000 < l'.length
  · go_wp2_with fail
    go_quiet (fail)
    go_wp2_with fail
    go_ret
    exact ⟨rfl, below_drewN hbw _⟩
  have h1 : l.length ≤ 1000 := by omega
  have h2 : l'.length ≤ 1000 := by omega
  have h1i : ¬ (1000 < (l.length : Int)) := by omega
  have h2i : ¬ (1000 < (l'.length : Int)) := by omega
  clear h1000 h1000'
  go_wp2_with fail
  go_quiet (fail)
  go_wp2_with fail
  clear h1i h2i
  have hb2 := below_drewN hbw nq
  refine (grown_any _ l A cap (by omega) ((hat.below hb2).mono hb2.size)).mono ?_
  rintro e w3 ⟨b, rfl, hb0, hB, hb3⟩
  have gok := grownF_ok (ActsAt.ok hat)
  have hb4 : Below w.heap.size w w3 := hb2.trans (hb3.mono hb2.size)
  have hbnew : w.heap.size ≤ b := Nat.le_trans hb2.size hb0
  have hatm := (hat'.below hb4)
  clear hb2 hb3 hbw hc0 hc1 hat hat' hb0
  generalize grownF l = f at *
  go_wp2_with (first
    | (go_at_call 14; refine (until_any b p _ _ hB).mono ?_; rintro e w' ⟨rfl, rfl⟩)
    | (go_at_call 15; refine (banned_any b p _ _ _ hn0 hB).mono ?_; rintro e w' ⟨rfl, rfl⟩))
  go_loopw [39] (fun i wr => ∃ k : Nat, i = .int .i64 k ∧ More w f l' A' b k wr) (fun i _ => l'.length - (intOf i).toNat)
  case atStart => exact ⟨0, rfl, Nat.zero_le _, hbnew, by simpa [moreF] using hB, by simpa [moreF] using gok, fun i => by simp [moreF], hatm, hb4⟩
  case round =>
    obtain ⟨k, rfl, g⟩ := hrel
    have gle := g.le
    by_cases hk : k < l'.length
    · obtain ⟨q, off, rfl, _, aok, c1, c2, c3, c4⟩ := g.acts.cells hk
      have gb := g.book
      have gok' := g.ok
      have G := Lib.hid g
      clear g hB hatm hb4
      go_wp2_with (first
        | (go_at_call 16; refine (blame_any b _ _ (moreF f (l'.take k)) _ _ aok.1 aok.2 (gb.alloc _) gok').mono ?_; rintro e w2 ⟨rfl, hB2, hK2⟩)
        | (go_at_call 17; refine (forgive_any b _ _ (moreF f (l'.take k)) (gb.alloc _)).mono ?_; rintro e w2 ⟨rfl, hB2, hK2⟩))
      all_goals go_roundw
      case rel => exact ⟨k + 1, by go_num, G.out.step hk (stepMore_0 (by assumption)) hB2 hK2⟩
      case measure => simp [intOf]; omega
      case rel => exact ⟨k + 1, by go_num, G.out.step hk (stepMore_1 (by assumption)) hB2 hK2⟩
      case measure => simp [intOf]; omega
    · have gb := g.book
      have hbl := g.below
      have hm1 := until_mono g.til p
      generalize moreF f (l'.take k) = f' at *
      generalize hu1 : untilOf f p = u at *
      clear hu1
      by_cases hban : now < u
      · have h1 : now < untilOf f' p := by omega
        go_wp2_with (first
          | (go_at_call 14; refine (until_any b p _ _ gb).mono ?_; rintro e w' ⟨rfl, rfl⟩)
          | (go_at_call 15; refine (banned_any b p _ _ _ hn0 gb).mono ?_; rintro e w' ⟨rfl, rfl⟩))
        go_ret
        exact ⟨rfl, hbl⟩
      · have hle : u ≤ now := by omega
        clear hban
        go_wp2_with (first
          | (go_at_call 14; refine (until_any b p _ _ gb).mono ?_; rintro e w' ⟨rfl, rfl⟩)
          | (go_at_call 15; refine (banned_any b p _ _ _ hn0 gb).mono ?_; rintro e w' ⟨rfl, rfl⟩))
        all_goals first | (exfalso; omega) | (go_ret; exact ⟨rfl, hbl⟩)

/-- the reading of a pair of lists of acts -/
theorem stays_open {H : Type} {enc : TypeId × Value → H} {W : World} {base : Nat} {v : Value} {d : DataW H} {p : List MemPlace} (okv : Value.okWide Try.prog W .any base 37 v)
    (h : DataW.Trod enc Try.prog W 0 (fun _ => true) true 37 v d p) :
    ∃ A n c l A' n' c' l', v = .agg #[.slice A n c, .slice A' n' c'] ∧ l.length = n ∧ n ≤ maxLen ∧ At 4 IsAct W W.heap.size A l ∧ l'.length = n' ∧ n' ≤ maxLen ∧ At 4 IsAct W W.heap.size A' l' := by
  obtain ⟨v0, v1, y0, y1, m, rfl, _, _, h0, h1⟩ := Joins.open_agg2 Try.underlying37 (by kernel_rfl) (by kernel_rfl) okv h
  obtain ⟨A, n, c, l, rfl, hl, hc, hm, hat⟩ := open_at_of IsAct 4 (by omega) Try.underlying26 (by kernel_rfl) h0 isAct_open
  obtain ⟨A', n', c', l', rfl, hl', hc', hm', hat'⟩ := open_at_of IsAct 4 (by omega) Try.underlying26 (by kernel_rfl) h1 isAct_open
  exact ⟨A, n, c, l, A', n', c', l', rfl, hl, by omega, hat, hl', by omega, hat'⟩
end Go.Proofs.Ytmghjghjnolfoaa
