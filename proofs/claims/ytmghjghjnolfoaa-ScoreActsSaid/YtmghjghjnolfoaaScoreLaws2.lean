/- The walks of ScoreActs and ScoreAdds. -/
import Derived.Test.YtmghjghjnolfoaaScoreRef
import Derived.Test.YtmghjghjnolfoaaScoreLaws
namespace Go.Proofs.Ytmghjghjnolfoaa
open Go.RowKit Go.Deep
set_option linter.unusedVariables false
attribute [local go_sem ↓] Go.wp_at_zero Go.wp_at_succ

/-- what stays while one answer is held against the other -/
structure Rest (b c : Nat) (f : Lines) (w0 w : World) : Prop where
  book : IsBook w b f
  ref : IsRef w c f
  below : Below w0.heap.size w0 w
theorem Rest.drew {b c : Nat} {f : Lines} {w0 w : World} (h : Rest b c f w0 w) : Rest b c f w0 w.drew := ⟨h.book.drew, h.ref.drew, h.below.drew⟩
theorem keepS {x b c : Nat} {f : Lines} {w0 w w' : World} {v1 v3 : Value} (h : w.cell? ⟨x, 1, none⟩ = some v1 ∧ w.cell? ⟨x, 3, none⟩ = some v3 ∧ Rest b c f w0 w) (hb : Below w.heap.size w w') :
    w'.cell? ⟨x, 1, none⟩ = some v1 ∧ w'.cell? ⟨x, 3, none⟩ = some v3 ∧ Rest b c f w0 w' :=
  ⟨(hb.cell (p := ⟨x, 1, none⟩) (World.block_lt_of_cell? w _ h.1)).trans h.1, (hb.cell (p := ⟨x, 3, none⟩) (World.block_lt_of_cell? w _ h.2.1)).trans h.2.1,
    h.2.2.book.kp (Kp.of_below (S := fun _ => False) hb) (fun x => x), h.2.2.ref.kp (Kp.of_below (S := fun _ => False) hb) (fun x => x), h.2.2.below.trans (hb.mono h.2.2.below.size)⟩
theorem keepK {x q : Nat} {w w' : World} {v1 v3 : Value} (h : w.cell? ⟨x, 1, none⟩ = some v1 ∧ w.cell? ⟨x, 3, none⟩ = some v3) (hk : Kp (· = q) w w') (hx : x ≠ q) :
    w'.cell? ⟨x, 1, none⟩ = some v1 ∧ w'.cell? ⟨x, 3, none⟩ = some v3 :=
  ⟨(hk.cell (p := ⟨x, 1, none⟩) (World.block_lt_of_cell? w _ h.1) hx).trans h.1, (hk.cell (p := ⟨x, 3, none⟩) (World.block_lt_of_cell? w _ h.2) hx).trans h.2⟩
/-- both books behind so many acts -/
structure Two (w0 : World) (l : List ActD) (A : Option Addr) (b c k : Nat) (w : World) : Prop where
  le : k ≤ l.length
  new : w0.heap.size ≤ b
  new' : w0.heap.size ≤ c
  ne : b ≠ c
  book : IsBook w b (grownF (l.take k))
  ref : IsRef w c (grownF (l.take k))
  acts : ActsAt w w0.heap.size A l
  below : Below w0.heap.size w0 w

theorem Two.step {w0 w w' : World} {l : List ActD} {A : Option Addr} {b c k : Nat} {f : Lines} {S : Nat → Prop} (g : Two w0 l A b c k w) (hk : k < l.length) (e : stepAct (grownF (l.take k)) l[k] = f)
    (hr : Rest b c f w0 w') (hK : Kp S w w') (hS : ∀ i, i < w0.heap.size → ¬ S i) : Two w0 l A b c (k + 1) w' := by
  refine ⟨hk, g.new, g.new', g.ne, ?_, ?_, g.acts.kp hK g.below.size hS, hr.below⟩
  · rw [grownF_take l k hk, e]; exact hr.book
  · rw [grownF_take l k hk, e]; exact hr.ref
theorem list_at (b : Nat) (now : Int) (w : World) (f : Lines) (hn : 0 ≤ now) (h : IsBook w b f) :
    Calls Try.prog 25 #[.pointer (some ⟨b, 0, none⟩), .int .u64 now] w fun r w' =>
      ∃ A cap, r = .returned (.slice A (banned f now 64).length cap) ∧ At 1 IsNum w' w'.heap.size A (banned f now 64) ∧ Below w.heap.size w w' := by
  refine (list_any b now w f hn h).mono fun e w' ⟨v, he, hr, hb⟩ => ?_
  obtain ⟨A, cap, rfl, ha⟩ := ints_at hr
  exact ⟨A, cap, he, ha, hb⟩
theorem reflist_at (b : Nat) (now : Int) (w : World) (f : Lines) (h : IsRef w b f) :
    Calls Try.prog 26 #[.pointer (some ⟨b, 0, none⟩), .int .u64 now] w fun r w' =>
      ∃ A cap, r = .returned (.slice A (banned f now 64).length cap) ∧ At 1 IsNum w' w'.heap.size A (banned f now 64) ∧ Below w.heap.size w w' := by
  refine (reflist_any b now w f h).mono fun e w' ⟨v, he, hr, hb⟩ => ?_
  obtain ⟨A, cap, rfl, ha⟩ := ints_at hr
  exact ⟨A, cap, he, ha, hb⟩
/-- the cells of a new book of the document's -/
def zeroRef : Array Value := ((List.range 128).map fun i => if i < 64 then Value.int .i64 0 else Value.int .u64 0).toArray
theorem zero_ref (w : World) : (zeroValue 47).run Try.prog w = .ok (.agg zeroRef) w := by kernel_rfl
theorem zeroRef_pts (i : Nat) (h : i < 64) : zeroRef[i]? = some (.int .i64 0) := by
  have e' : i < 128 := by omega
  simp [zeroRef, h, e']
theorem zeroRef_til (i : Nat) (h : i < 64) : zeroRef[64 + i]? = some (.int .u64 0) := by
  have e : ¬ 64 + i < 64 := by omega
  have e' : 64 + i < 128 := by omega
  simp [zeroRef, e']
theorem new_ref (w : World) : IsRef (w.alloc (.cells zeroRef 47)) w.heap.size (fun _ => ⟨0, 0⟩) := by
  refine ⟨by simp, ?_, ?_, ?_⟩
  · intro i hi
    rw [World.cell?_alloc_new]
    exact zeroRef_pts i hi
  · intro i hi
    rw [World.cell?_alloc_new]
    exact zeroRef_til i hi
  · intro o; exact World.frozen?_alloc_new _ _ _ _

set_option maxRecDepth 100000 in
set_option maxHeartbeats 8000000 in
theorem scoreActs_walk (w : World) (A : Option Addr) (n cap : Nat) (l : List ActD) (hl : l.length = n) (_hc : n ≤ cap) (hm : cap ≤ maxLen) (hat : At 4 IsAct w w.heap.size A l) :
    Calls Try.prog 7 #[.slice A n cap] w fun r w' => r = .returned (.bool true) ∧ Below w.heap.size w w' := by
  subst hl
  unfold maxLen at hm
  by_cases h100 : 100 < l.length
  · go_enter Try.func7, Try.ntmps7
    go_wp2_with (go_at_call 9; refine (alive_any _).mono ?_; rintro e w1 ⟨rfl, hb⟩)
    go_ret
    exact ⟨rfl, hb⟩
  have hz := zero_ref
  go_enter Try.func7, Try.ntmps7
  go_wp2_with (first
    | (go_at_call 9; refine (alive_any _).mono ?_; rintro e w1 ⟨rfl, hb⟩)
    | (go_at_call 18; refine (new_book _).mono ?_; rintro e w2 ⟨b, rfl, hb0, hB, hBl⟩))
  go_loopw [21] (fun i wr => ∃ k : Nat, i = .int .i64 k ∧ Two w l A b w2.heap.size k wr) (fun i _ => l.length - (intOf i).toNat)
  case atStart =>
    have hb2 : Below w.heap.size w w2 := hb.trans (hBl.mono hb.size)
    have hlt := hB.lt
    exact ⟨0, rfl, Nat.zero_le _, Nat.le_trans hb.size hb0, hb2.size, by omega, by simpa [grownF] using hB.alloc _, by simpa [grownF] using new_ref w2, (hat.below hb2).below ((Below.refl _ _).alloc hb2.size _), hb2.alloc hb2.size _⟩
  case round =>
    obtain ⟨k, rfl, g⟩ := hrel
    have gle := g.le
    by_cases hk : k < l.length
    · obtain ⟨q, off, rfl, _, aok, c1, c2, c3, c4⟩ := g.acts.cells hk
      have gb := g.book
      have gr := g.ref
      have gne := g.ne
      have gok : OkLines (grownF (l.take k)) := grownF_ok (fun a ha => g.acts.ok a (List.mem_of_mem_take ha))
      have G := Lib.hid g
      have hblw := g.below
      have hbsz := hblw.size
      clear g hat hb hB hBl hb0 hz
      have hnew := G.out.new
      have hnew' := G.out.new'
      by_cases k0 : (l[k].kind == 0) = true
      · go_wp2_with fail
        refine (blame_any b _ _ _ _ _ aok.1 aok.2 (gb.alloc _) gok).mono ?_
        rintro e w6 ⟨rfl, hB6, hK6⟩
        have hcc : w6.cell? ⟨wr.heap.size, 1, none⟩ = some (.int .i64 l[k].peer) ∧ w6.cell? ⟨wr.heap.size, 3, none⟩ = some (.int .u64 l[k].now) := by
          refine keepK (q := b) ⟨?_, ?_⟩ hK6 (by have := gb.lt; omega)
          · go_simp
          · go_simp
        have hcc2 : w6.cell? ⟨wr.heap.size, 2, none⟩ = some (.int .i64 l[k].pts) := by
          rw [hK6.cell (p := ⟨wr.heap.size, 2, none⟩) (by simp) (by have := gb.lt; simp; omega)]; go_simp
        obtain ⟨hc1, hc3⟩ := hcc
        have hR6 : IsRef w6 w2.heap.size (grownF (l.take k)) := (gr.alloc _).kp hK6 (fun e => gne e.symm)
        have hb6 : Below w.heap.size w w6 := Kp.from_elder (hblw.alloc hbsz _) hK6 (fun i hi e => by omega)
        have hsz6 := hK6.size
        have HK6 : Hid (Kp (fun i => w.heap.size ≤ i) wr w6) := Lib.hid (((Kp.refl _ wr).alloc _).trans_of hK6 (fun i _ e => by omega))
        clear hK6
        go_wp2_with fail
        refine (refblame_any w2.heap.size _ w6 _ _ _ aok.1 aok.2 hR6 gok).mono ?_
        rintro e wx ⟨rfl, hRx, hKx⟩
        have hlt6 := hB6.lt
        have hS1 : wx.cell? ⟨wr.heap.size, 1, none⟩ = some (.int .i64 l[k].peer) ∧ wx.cell? ⟨wr.heap.size, 3, none⟩ = some (.int .u64 l[k].now) ∧ Rest b w2.heap.size (blF (grownF (l.take k)) l[k].peer l[k].pts l[k].now) w wx := by
          obtain ⟨x1, x3⟩ := keepK (q := w2.heap.size) ⟨hc1, hc3⟩ hKx (by have := gr.lt; omega)
          exact ⟨x1, x3, hB6.kp hKx gne, hRx, Kp.from_elder hb6 hKx (fun i hi e => by omega)⟩
        have HK : Hid (Kp (fun i => w.heap.size ≤ i) wr wx) := Lib.hid (HK6.out.trans_of hKx (fun i _ e => by omega))
        have hstep := stepAct_0 (f := grownF (l.take k)) k0
        have Hstep := Lib.hid hstep
        clear hstep hc1 hc3 hcc2 hR6 hb6 hsz6 hKx hRx hB6 HK6 gb gr hblw hlt6 gok
        generalize blF (grownF (l.take k)) l[k].peer l[k].pts l[k].now = f at *
        go_wp2_with fail
        have hS0 : wx.cell? ⟨wr.heap.size, 1, none⟩ = some (.int .i64 l[k].peer) ∧ wx.cell? ⟨wr.heap.size, 3, none⟩ = some (.int .u64 l[k].now) ∧ Rest b w2.heap.size f w wx := hS1
        clear hS1
        go_region_held3 (fun w' => w'.cell? ⟨wr.heap.size, 1, none⟩ = some (.int .i64 l[k].peer) ∧ w'.cell? ⟨wr.heap.size, 3, none⟩ = some (.int .u64 l[k].now) ∧ Rest b w2.heap.size f w w')
          (first | exact ⟨hS0.1, hS0.2.1, hS0.2.2.drew⟩ | assumption | exact keepS (by assumption) (by assumption))
          (first
            | (go_at_call 13; refine (score_any b _ _ f (Rest.book (by go_split_ands; assumption))).mono ?_; rintro e w' ⟨rfl, rfl⟩)
            | (go_at_call 21; refine (refscore_any w2.heap.size _ _ f (Rest.ref (by go_split_ands; assumption))).mono ?_; rintro e w' ⟨rfl, rfl⟩)
            | (go_at_call 14; refine (until_any b _ _ f (Rest.book (by go_split_ands; assumption))).mono ?_; rintro e w' ⟨rfl, rfl⟩)
            | (go_at_call 22; refine (refuntil_any w2.heap.size _ _ f (Rest.ref (by go_split_ands; assumption))).mono ?_; rintro e w' ⟨rfl, rfl⟩)
            | (go_at_call 15; refine (banned_any b _ _ f _ aok.1 (Rest.book (by go_split_ands; assumption))).mono ?_; rintro e w' ⟨rfl, rfl⟩)
            | (go_at_call 23; refine (refbanned_any w2.heap.size _ _ f _ (Rest.ref (by go_split_ands; assumption))).mono ?_; rintro e w' ⟨rfl, rfl⟩)
            | (go_at_call 25; refine (list_at b _ _ f aok.1 (Rest.book (by go_split_ands; assumption))).mono ?_; rintro e w3 ⟨A1, c1, rfl, ha1, hb1⟩)
            | (go_at_call 26; refine (reflist_at w2.heap.size _ _ f (Rest.ref (by go_split_ands; assumption))).mono ?_; rintro e w4 ⟨A2, c2, rfl, ha2, hb2⟩)
            | (go_at_call 24; refine (same_ints A1 A2 _ _ _ w4 (banned_len _ _ _) ((ha1.below hb2).mono hb2.size) ha2).mono ?_; rintro e w5 ⟨rfl, hb5⟩))
        have hrest : Rest b w2.heap.size f w w5 := by go_split_ands; assumption
        have hkp5 : Kp (fun i => w.heap.size ≤ i) wr w5 := ((((HK.out).drew).trans (Kp.of_below hb1)).trans (Kp.of_below hb2)).trans (Kp.of_below hb5)
        go_wp2_with fail
        go_roundw
        case rel => exact ⟨k + 1, by go_num, G.out.step hk Hstep.out hrest hkp5 (fun i hi e => by omega)⟩
        case measure => simp [intOf]; omega
      · replace k0 : (l[k].kind == 0) = false := by simpa using k0
        by_cases k1 : (l[k].kind == 1) = true
        · go_wp2_with fail
          have hbl := gb.lt
          have hrl := gr.lt
          generalize hwx : wr.alloc (.cells #[.int .i64 l[k].kind, .int .i64 l[k].peer, .int .i64 l[k].pts, .int .u64 l[k].now] 35) = w5
          have hS0 : w5.cell? ⟨wr.heap.size, 1, none⟩ = some (.int .i64 l[k].peer) ∧ w5.cell? ⟨wr.heap.size, 3, none⟩ = some (.int .u64 l[k].now) := by
            subst hwx
            exact ⟨by go_simp, by go_simp⟩
          have gb5 : IsBook w5 b (grownF (l.take k)) := by subst hwx; exact gb.alloc _
          have gr5 : IsRef w5 w2.heap.size (grownF (l.take k)) := by subst hwx; exact gr.alloc _
          have hbl5 : Below w.heap.size w w5 := by subst hwx; exact hblw.alloc hbsz _
          have HK5 : Hid (Kp (fun i => w.heap.size ≤ i) wr w5) := by subst hwx; exact Lib.hid ((Kp.refl _ wr).alloc _)
          clear hwx gb gr hblw gok
          go_region_held3 (fun w' => w'.cell? ⟨wr.heap.size, 1, none⟩ = some (.int .i64 l[k].peer) ∧ w'.cell? ⟨wr.heap.size, 3, none⟩ = some (.int .u64 l[k].now))
            (first | assumption | exact keepK (by assumption) (by assumption) (by omega))
            (first
              | (go_at_call 17; refine (forgive_any b _ _ (grownF (l.take k)) (gb5.drew)).mono ?_; rintro e w6 ⟨rfl, hB6, hK6⟩)
              | (go_at_call 20; refine (refforgive_any w2.heap.size _ _ (grownF (l.take k)) (gr5.drew.kp hK6 (fun e => gne e.symm))).mono ?_; rintro e wx ⟨rfl, hRx, hKx⟩))
          have hcx : wx.cell? ⟨wr.heap.size, 1, none⟩ = some (.int .i64 l[k].peer) ∧ wx.cell? ⟨wr.heap.size, 3, none⟩ = some (.int .u64 l[k].now) := by assumption
          have hS1 : wx.cell? ⟨wr.heap.size, 1, none⟩ = some (.int .i64 l[k].peer) ∧ wx.cell? ⟨wr.heap.size, 3, none⟩ = some (.int .u64 l[k].now) ∧ Rest b w2.heap.size (fgF (grownF (l.take k)) l[k].peer) w wx :=
            ⟨hcx.1, hcx.2, hB6.kp hKx gne, hRx, Kp.from_elder (Kp.from_elder hbl5.drew hK6 (fun i hi e => by omega)) hKx (fun i hi e => by omega)⟩
          have HK : Hid (Kp (fun i => w.heap.size ≤ i) wr wx) := Lib.hid ((HK5.out.drew.trans_of hK6 (fun i _ e => by omega)).trans_of hKx (fun i _ e => by omega))
          have hstep := stepAct_1 (f := grownF (l.take k)) k0 k1
          have Hstep := Lib.hid hstep
          clear hstep hKx hRx hB6 hK6 gb5 gr5 hbl5 HK5 hcx hS0
          generalize fgF (grownF (l.take k)) l[k].peer = f at *
          go_wp2_with fail
          have hS0 : wx.cell? ⟨wr.heap.size, 1, none⟩ = some (.int .i64 l[k].peer) ∧ wx.cell? ⟨wr.heap.size, 3, none⟩ = some (.int .u64 l[k].now) ∧ Rest b w2.heap.size f w wx := hS1
          clear hS1
          go_region_held3 (fun w' => w'.cell? ⟨wr.heap.size, 1, none⟩ = some (.int .i64 l[k].peer) ∧ w'.cell? ⟨wr.heap.size, 3, none⟩ = some (.int .u64 l[k].now) ∧ Rest b w2.heap.size f w w')
            (first | exact ⟨hS0.1, hS0.2.1, hS0.2.2.drew⟩ | assumption | exact keepS (by assumption) (by assumption))
            (first
              | (go_at_call 13; refine (score_any b _ _ f (Rest.book (by go_split_ands; assumption))).mono ?_; rintro e w' ⟨rfl, rfl⟩)
              | (go_at_call 21; refine (refscore_any w2.heap.size _ _ f (Rest.ref (by go_split_ands; assumption))).mono ?_; rintro e w' ⟨rfl, rfl⟩)
              | (go_at_call 14; refine (until_any b _ _ f (Rest.book (by go_split_ands; assumption))).mono ?_; rintro e w' ⟨rfl, rfl⟩)
              | (go_at_call 22; refine (refuntil_any w2.heap.size _ _ f (Rest.ref (by go_split_ands; assumption))).mono ?_; rintro e w' ⟨rfl, rfl⟩)
              | (go_at_call 15; refine (banned_any b _ _ f _ aok.1 (Rest.book (by go_split_ands; assumption))).mono ?_; rintro e w' ⟨rfl, rfl⟩)
              | (go_at_call 23; refine (refbanned_any w2.heap.size _ _ f _ (Rest.ref (by go_split_ands; assumption))).mono ?_; rintro e w' ⟨rfl, rfl⟩)
              | (go_at_call 25; refine (list_at b _ _ f aok.1 (Rest.book (by go_split_ands; assumption))).mono ?_; rintro e w3 ⟨A1, c1, rfl, ha1, hb1⟩)
              | (go_at_call 26; refine (reflist_at w2.heap.size _ _ f (Rest.ref (by go_split_ands; assumption))).mono ?_; rintro e w4 ⟨A2, c2, rfl, ha2, hb2⟩)
              | (go_at_call 24; refine (same_ints A1 A2 _ _ _ w4 (banned_len _ _ _) ((ha1.below hb2).mono hb2.size) ha2).mono ?_; rintro e w5 ⟨rfl, hb5⟩))
          have hrest : Rest b w2.heap.size f w w5 := by go_split_ands; assumption
          have hkp5 : Kp (fun i => w.heap.size ≤ i) wr w5 := ((((HK.out).drew).trans (Kp.of_below hb1)).trans (Kp.of_below hb2)).trans (Kp.of_below hb5)
          go_wp2_with fail
          go_roundw
          case rel => exact ⟨k + 1, by go_num, G.out.step hk Hstep.out hrest hkp5 (fun i hi e => by omega)⟩
          case measure => simp [intOf]; omega
        · replace k1 : (l[k].kind == 1) = false := by simpa using k1
          go_wp2_with fail
          have hstep := stepAct_2 (f := grownF (l.take k)) k0 k1
          have Hstep := Lib.hid hstep
          clear hstep gok
          generalize hf : grownF (l.take k) = f at *
          have Hf := Lib.hid hf
          clear hf
          generalize hwx : wr.alloc (.cells #[.int .i64 l[k].kind, .int .i64 l[k].peer, .int .i64 l[k].pts, .int .u64 l[k].now] 35) = wx
          have hS1 : wx.cell? ⟨wr.heap.size, 1, none⟩ = some (.int .i64 l[k].peer) ∧ wx.cell? ⟨wr.heap.size, 3, none⟩ = some (.int .u64 l[k].now) ∧ Rest b w2.heap.size f w wx := by
            subst hwx
            exact ⟨by go_simp, by go_simp, gb.alloc _, gr.alloc _, hblw.alloc hbsz _⟩
          have HK : Hid (Kp (fun i => w.heap.size ≤ i) wr wx) := by subst hwx; exact Lib.hid ((Kp.refl _ wr).alloc _)
          clear hwx gb gr hblw
          have hS0 : wx.cell? ⟨wr.heap.size, 1, none⟩ = some (.int .i64 l[k].peer) ∧ wx.cell? ⟨wr.heap.size, 3, none⟩ = some (.int .u64 l[k].now) ∧ Rest b w2.heap.size f w wx := hS1
          clear hS1
          go_region_held3 (fun w' => w'.cell? ⟨wr.heap.size, 1, none⟩ = some (.int .i64 l[k].peer) ∧ w'.cell? ⟨wr.heap.size, 3, none⟩ = some (.int .u64 l[k].now) ∧ Rest b w2.heap.size f w w')
            (first | exact ⟨hS0.1, hS0.2.1, hS0.2.2.drew⟩ | assumption | exact keepS (by assumption) (by assumption))
            (first
              | (go_at_call 13; refine (score_any b _ _ f (Rest.book (by go_split_ands; assumption))).mono ?_; rintro e w' ⟨rfl, rfl⟩)
              | (go_at_call 21; refine (refscore_any w2.heap.size _ _ f (Rest.ref (by go_split_ands; assumption))).mono ?_; rintro e w' ⟨rfl, rfl⟩)
              | (go_at_call 14; refine (until_any b _ _ f (Rest.book (by go_split_ands; assumption))).mono ?_; rintro e w' ⟨rfl, rfl⟩)
              | (go_at_call 22; refine (refuntil_any w2.heap.size _ _ f (Rest.ref (by go_split_ands; assumption))).mono ?_; rintro e w' ⟨rfl, rfl⟩)
              | (go_at_call 15; refine (banned_any b _ _ f _ aok.1 (Rest.book (by go_split_ands; assumption))).mono ?_; rintro e w' ⟨rfl, rfl⟩)
              | (go_at_call 23; refine (refbanned_any w2.heap.size _ _ f _ (Rest.ref (by go_split_ands; assumption))).mono ?_; rintro e w' ⟨rfl, rfl⟩)
              | (go_at_call 25; refine (list_at b _ _ f aok.1 (Rest.book (by go_split_ands; assumption))).mono ?_; rintro e w3 ⟨A1, c1, rfl, ha1, hb1⟩)
              | (go_at_call 26; refine (reflist_at w2.heap.size _ _ f (Rest.ref (by go_split_ands; assumption))).mono ?_; rintro e w4 ⟨A2, c2, rfl, ha2, hb2⟩)
              | (go_at_call 24; refine (same_ints A1 A2 _ _ _ w4 (banned_len _ _ _) ((ha1.below hb2).mono hb2.size) ha2).mono ?_; rintro e w5 ⟨rfl, hb5⟩))
          have hrest : Rest b w2.heap.size f w w5 := by go_split_ands; assumption
          have hkp5 : Kp (fun i => w.heap.size ≤ i) wr w5 := ((((HK.out).drew).trans (Kp.of_below hb1)).trans (Kp.of_below hb2)).trans (Kp.of_below hb5)
          go_wp2_with fail
          go_roundw
          case rel => exact ⟨k + 1, by go_num, G.out.step hk (by rw [Hf.out]; exact Hstep.out) hrest hkp5 (fun i hi e => by omega)⟩
          case measure => simp [intOf]; omega
    · go_wp2
      go_ret
      exact ⟨rfl, g.below⟩
end Go.Proofs.Ytmghjghjnolfoaa
