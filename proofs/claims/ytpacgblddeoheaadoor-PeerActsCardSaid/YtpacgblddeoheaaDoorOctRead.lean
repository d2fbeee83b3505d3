/- What is read of bytes: the program's walk and the document's. -/
import Derived.Test.YtpacgblddeoheaaDoorOct2
namespace Go.Proofs.YtpacgblddeoheaaDoor
open Go.RowKit Go.Deep
set_option linter.unusedVariables false
set_option linter.unusedSimpArgs false
set_option maxRecDepth 100000
attribute [local go_sem ↓] Go.wp_at_zero Go.wp_at_succ

/-- what Read answers -/
def readV (bs : List UInt8) : Value := .tuple #[.int .u64 ((Oct.read bs).1 : Int), .int .i64 ((Oct.read bs).2.1 : Int), .int .i64 (Oct.read bs).2.2]
theorem readV_of {bs : List UInt8} {x m : Nat} {e : Int} (h : Oct.read bs = (x, m, e)) : readV bs = .tuple #[.int .u64 (x : Int), .int .i64 (m : Int), .int .i64 e] := by unfold readV; rw [h]
/-- the bytes of the number behind the first one -/
theorem BytesAt.mid {w : World} {B b off m : Nat} {c : UInt8} {r : List UInt8} (h : BytesAt w B (some ⟨b, off, none⟩) (c :: r)) : BytesAt w B (some ⟨b, off + 1, none⟩) (r.take m) := by
  have := (BytesAt.drop h 1).take m
  simpa using this
set_option maxHeartbeats 2000000 in
theorem oread_any (A : Option Addr) (n cap B : Nat) (bs : List UInt8) (w : World) (hl : bs.length = n) (hc : n ≤ cap) (hm : cap ≤ maxLen) (h : BytesAt w B A bs) :
    Calls Tryd.prog 91 #[.slice A n cap] w fun r w' => r = .returned (readV bs) ∧ w = w' := by
  unfold maxLen at hm
  subst hl
  cases bs with
  | nil =>
    rw [readV_of (x := 0) (m := 0) (e := 4) rfl]
    go_enter Tryd.func91, Tryd.ntmps91
    go_wp2
    refine bodyPost_ret (results_tmp3 rfl _ _ _) rfl ?_
    exact ⟨rfl, rfl⟩
  | cons c r =>
    obtain ⟨q, off, rfl, _, c1⟩ := h.cell (i := 0) (by simp)
    rw [Nat.add_zero, List.getElem_cons_zero] at c1
    have h0 : (0 : Int) < ((c :: r).length : Int) := by simp
    have h0' : ((((c :: r).length : Nat) : Int) == 0) = false := by rw [beq_eq_false_iff_ne]; omega
    have hcl := c.toNat_lt
    rcases read_cases c r with ⟨_, ⟨e1, e2, e3⟩, hr⟩ | ⟨m, hm8, hw, hcase, hres⟩
    · rw [readV_of hr]
      clear hr h
      generalize (c :: r).length = L at *
      go_enter Tryd.func91, Tryd.ntmps91
      go_wp2
      refine bodyPost_ret (results_tmp3 rfl _ _ _) rfl ?_
      exact ⟨rfl, rfl⟩
    · have hmid : BytesAt w B (some ⟨q, off + 1, none⟩) (r.take m) := BytesAt.mid h
      have hL : (c :: r).length = r.length + 1 := rfl
      clear h hw
      rcases hres with ⟨hs, hr⟩ | ⟨hs, hz, hr⟩ | ⟨hs, hz, hr⟩
      · rw [readV_of hr]
        rw [hL] at h0 h0' hc
        rw [hL]
        clear hr hL hmid
        rcases hcase with ⟨rfl, e1⟩ | ⟨rfl, e1, e2⟩ | ⟨rfl, e1, e2, e3⟩
        all_goals
          go_enter Tryd.func91, Tryd.ntmps91
          go_wp2
          refine bodyPost_ret (results_tmp3 rfl _ _ _) rfl ?_
          exact ⟨rfl, rfl⟩
      · have htl : (r.take m).length = m := by rw [List.length_take]; omega
        have hget := oget_yes (some ⟨q, off + 1, none⟩) (cap - 1) B (r.take m) (by omega) w hmid
        rw [htl] at hget
        have hsz := osize_any (Oct.val (r.take m)) w
        rw [hz] at hsz
        rw [readV_of hr]
        rw [hL] at h0 h0' hc
        rw [hL]
        have HG := Lib.hid hget
        have HS := Lib.hid hsz
        clear hr hL hmid hget hsz hz htl
        generalize Oct.val (r.take m) = x at *
        rcases hcase with ⟨rfl, e1⟩ | ⟨rfl, e1, e2⟩ | ⟨rfl, e1, e2, e3⟩
        all_goals
          go_enter Tryd.func91, Tryd.ntmps91
          go_wp2_with (first
            | (go_at_call 72; refine HG.out.mono ?_; rintro e w' ⟨rfl, rfl⟩)
            | (go_at_call 86; refine HS.out.mono ?_; rintro e w' ⟨rfl, rfl⟩))
          refine bodyPost_ret (results_tmp3 rfl _ _ _) rfl ?_
          exact ⟨rfl, rfl⟩
      · have htl : (r.take m).length = m := by rw [List.length_take]; omega
        have hget := oget_yes (some ⟨q, off + 1, none⟩) (cap - 1) B (r.take m) (by omega) w hmid
        rw [htl] at hget
        have hsz := osize_any (Oct.val (r.take m)) w
        have hne : ((Oct.size (Oct.val (r.take m)) : Int) != ((m + 1 : Nat) : Int)) = true := by rw [bne_iff_ne]; omega
        rw [readV_of hr]
        rw [hL] at h0 h0' hc
        rw [hL]
        have HG := Lib.hid hget
        have HS := Lib.hid hsz
        clear hr hL hmid hget hsz hz htl
        generalize Oct.size (Oct.val (r.take m)) = z at *
        generalize Oct.val (r.take m) = x at *
        rcases hcase with ⟨rfl, e1⟩ | ⟨rfl, e1, e2⟩ | ⟨rfl, e1, e2, e3⟩
        all_goals
          go_enter Tryd.func91, Tryd.ntmps91
          go_wp2_with (first
            | (go_at_call 72; refine HG.out.mono ?_; rintro e w' ⟨rfl, rfl⟩)
            | (go_at_call 86; refine HS.out.mono ?_; rintro e w' ⟨rfl, rfl⟩))
          refine bodyPost_ret (results_tmp3 rfl _ _ _) rfl ?_
          exact ⟨rfl, rfl⟩
end Go.Proofs.YtpacgblddeoheaaDoor
