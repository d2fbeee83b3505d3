/- The program is alive: its fixed trials answer as they should. -/
import Derived.Test.YtfmbigokdeplmaaOctetPack
import Derived.Lib.SmallJoins
namespace Go.Proofs.Ytfmbigokdeplmaa
open Go.RowKit Go.Deep
set_option linter.unusedVariables false
set_option maxRecDepth 100000
attribute [local go_sem ↓] Go.wp_at_zero Go.wp_at_succ

/-- a new row of bytes -/
theorem bytes_new (w : World) (t : TypeId) (cs : Array Value) (bs : List UInt8) (n B : Nat) (hc : cs = bytesArr bs) (hn : n = w.heap.size) (hB : n < B) : BytesAt (w.alloc (.cells cs t)) B (some ⟨n, 0, none⟩) bs := by
  subst hc; subst hn
  intro i hi
  refine ⟨w.heap.size, 0, [byteV bs[i]], rfl, hB, rfl, fun j hj => ?_⟩
  have hj0 : j = 0 := by simpa using hj
  subst hj0
  rw [(Bk.new w t (bytesArr bs)).cell]
  simp [bytesArr, hi]
theorem bytes_nil (w : World) (B : Nat) (A : Option Addr) : BytesAt w B A [] := fun i hi => by simp at hi
theorem parts_two (w : World) (B g c c' : Nat) (A A' : Option Addr) (p q : List UInt8) (hg : g < B) (h0 : w.cell? ⟨g, 0, none⟩ = some (.slice A p.length c)) (h1 : w.cell? ⟨g, 1, none⟩ = some (.slice A' q.length c'))
    (hc : p.length ≤ c) (hm : c ≤ maxLen) (hc' : q.length ≤ c') (hm' : c' ≤ maxLen) (hp : BytesAt w B A p) (hq : BytesAt w B A' q) : PartsAt w B (some ⟨g, 0, none⟩) [p, q] := by
  intro i hi
  have hi2 : i = 0 ∨ i = 1 := by simp at hi; omega
  rcases hi2 with rfl | rfl
  · refine ⟨g, 0, [.slice A p.length c], rfl, hg, ⟨A, c, rfl, hc, hm, hp⟩, fun j hj => ?_⟩
    have hj0 : j = 0 := by simpa using hj
    subst hj0; simpa using h0
  · refine ⟨g, 0, [.slice A' q.length c'], rfl, hg, ⟨A', c', rfl, hc', hm', hq⟩, fun j hj => ?_⟩
    have hj0 : j = 0 := by simpa using hj
    subst hj0; simpa using h1
theorem alive_parts (w : World) (t t' : TypeId) : PartsAt ((w.alloc (.cells #[.int .u8 97, .int .u8 98] t)).alloc (.cells #[.slice (some ⟨w.heap.size, 0, none⟩) 2 2, .slice none 0 0] t'))
    ((w.alloc (.cells #[.int .u8 97, .int .u8 98] t)).alloc (.cells #[.slice (some ⟨w.heap.size, 0, none⟩) 2 2, .slice none 0 0] t')).heap.size (some ⟨w.heap.size + 1, 0, none⟩) [[97, 98], []] := by
  have hb := bytes_new w t #[.int .u8 97, .int .u8 98] [97, 98] w.heap.size (w.heap.size + 1) rfl rfl (by omega)
  have hb' := hb.below ((Below.refl _ _).alloc (by simp) (.cells #[.slice (some ⟨w.heap.size, 0, none⟩) 2 2, .slice none 0 0] t'))
  have hk := Bk.new (w.alloc (.cells #[.int .u8 97, .int .u8 98] t)) t' #[.slice (some ⟨w.heap.size, 0, none⟩) 2 2, .slice none 0 0]
  rw [show (w.alloc (.cells #[.int .u8 97, .int .u8 98] t)).heap.size = w.heap.size + 1 by simp] at hk
  exact parts_two _ _ _ 2 0 (some ⟨w.heap.size, 0, none⟩) none _ _ (by simp) (by rw [hk.cell]; rfl) (by rw [hk.cell]; rfl) (by decide) (by decide) (by decide) (by decide) (At.mono hb' (by simp)) (bytes_nil _ _ _)
theorem Below.put {B : Nat} {a w : World} (h : Below B a w) (hB : B ≤ a.heap.size) (o : Obj) : Below B a (w.alloc o) := h.alloc (Nat.le_trans hB h.size) o
set_option maxHeartbeats 2000000 in
theorem alive_any (w : World) : Calls Try.prog 11 #[] w fun r w' => r = .returned (.bool true) ∧ Below w.heap.size w w' := by
  have hread : Oct.read [253, 252, 0] = (0, 0, 6) := by decide
  go_enter Try.func11, Try.ntmps11
  go_wp2_with fail
  refine (oput_fits 258 2 (by unfold U64; omega) (by omega) (by intro _; decide) _).mono ?_
  rintro e w1 ⟨v1, rfl, hv1, hb1⟩
  rw [show Oct.le 258 2 = [2, 1] by decide] at hv1
  obtain ⟨A1, c1, rfl, hc1, hm1, hat1, _⟩ := hv1.at_
  go_wp2_with fail
  refine (opack_any _ 2 2 _ [[97, 98], []] _ rfl (Nat.le_refl _) (by decide) (alive_parts _ _ _)).mono ?_
  rintro e w2 ⟨v2, rfl, hv2, hb2⟩
  rw [show Oct.pack [[97, 98], []] = [2, 2, 97, 98, 0] by decide] at hv2
  obtain ⟨A2, c2, rfl, hc2, hm2, hat2, _⟩ := hv2.at_
  have b12 : Below w1.heap.size w1 w2 := (Joins.below_alloc2 _ _ _).trans (hb2.mono (by simp; omega))
  have b02 : Below w.heap.size w w2 := hb1.trans (b12.mono hb1.size)
  have hat12 := At.mono (At.below hat1 b12) b12.size
  clear hb1 hb2 hv1 hv2 hat1 b12
  go_wp2_with fail
  refine (oread_any _ 3 3 _ [253, 252, 0] _ rfl (by decide) (by decide) (bytes_new _ _ _ _ _ _ rfl (by simp) (Nat.lt_succ_self _))).mono ?_
  rintro e w3 ⟨rfl, rfl⟩
  rw [readV_of hread]
  go_wp2_with fail
  refine (same_yes _ _ 2 2 _ _ [2, 1] _ _ _ rfl rfl (by decide) (At.below hat12 (Joins.below_alloc2 _ _ _)) (bytes_new _ _ _ _ _ _ rfl (by simp) (Nat.lt_succ_self _))).mono ?_
  rintro e w4 ⟨rfl, hb4⟩
  have b24 : Below w2.heap.size w2 w4 := (Joins.below_alloc2 _ _ _).trans (hb4.mono (by simp; omega))
  have b04 : Below w.heap.size w w4 := b02.trans (b24.mono b02.size)
  have hat24 := At.mono (At.below hat2 b24) b24.size
  clear hb4 b24 hat2 hat12
  go_wp2_with fail
  refine (ovar_any 253 (by unfold U64; omega) _).mono ?_
  rintro e w5 ⟨v5, rfl, hv5, hb5⟩
  rw [show Oct.var 253 = [253, 253, 0] by decide] at hv5
  obtain ⟨A5, c5, rfl, hc5, hm5, hat5, _⟩ := hv5.at_
  have b05 : Below w.heap.size w w5 := b04.trans (hb5.mono b04.size)
  have hat25 := At.mono (At.below hat24 hb5) hb5.size
  go_wp2_with fail
  refine (same_yes _ _ 3 3 _ _ [253, 253, 0] _ _ _ rfl rfl (by decide) (At.below hat5 (Joins.below_alloc1 _ _)) (bytes_new _ _ _ _ _ _ rfl (by simp) (Nat.lt_succ_self _))).mono ?_
  rintro e w6 ⟨rfl, hb6⟩
  have b56 : Below w5.heap.size w5 w6 := (Joins.below_alloc1 _ _).trans (hb6.mono (by simp))
  have b06 : Below w.heap.size w w6 := b05.trans (b56.mono b05.size)
  have hat26 := At.mono (At.below hat25 b56) b56.size
  go_wp2_with fail
  refine (same_yes _ _ 5 5 _ _ [2, 2, 97, 98, 0] _ _ _ rfl rfl (by decide) (At.below hat26 (Joins.below_alloc1 _ _)) (bytes_new _ _ _ _ _ _ rfl (by simp) (Nat.lt_succ_self _))).mono ?_
  rintro e w7 ⟨rfl, hb7⟩
  have b67 : Below w6.heap.size w6 w7 := (Joins.below_alloc1 _ _).trans (hb7.mono (by simp))
  have b07 : Below w.heap.size w w7 := b06.trans (b67.mono b06.size)
  go_wp2_with (go_at_call 21; refine (osize_any 252 _).mono ?_; rintro e w' ⟨rfl, rfl⟩)
  go_ret
  exact ⟨rfl, b07⟩
end Go.Proofs.Ytfmbigokdeplmaa
