/- Package frame: what Get answers. -/
import Derived.Test.YteebehmmfkapgaaDoorFrameHead
namespace Go.Proofs.YteebehmmfkapgaaDoor
open Go.RowKit Go.Deep
set_option linter.unusedVariables false
set_option linter.unusedSimpArgs false
set_option maxRecDepth 100000
attribute [local go_sem ↓] Go.wp_at_zero Go.wp_at_succ

def GetOut (w w' : World) (g : List UInt8 × List UInt8 × Nat × Int) (e : Ending) : Prop :=
  ∃ v, e = .returned (.tuple #[.string ⟨g.1.toArray⟩, v, .int .i64 (g.2.2.1 : Int), .int .i64 g.2.2.2]) ∧ OwnB w' w.heap.size v g.2.1 ∧ Below w.heap.size w w'
theorem GetOut.nil {w w' : World} {n : Nat} {x : Int} {g : List UInt8 × List UInt8 × Nat × Int} (hg : g = ([], [], n, x)) (h : Below w.heap.size w w') : GetOut w w' g (.returned (.tuple #[.string ⟨#[]⟩, .slice none 0 0, .int .i64 (n : Int), .int .i64 x])) := by
  subst hg; exact ⟨_, rfl, own_nil _ _, h⟩
theorem results_tmp4 {fn : Func} {t u v x : Tmp} (h : fn.results = #[.tmp t, .tmp u, .tmp v, .tmp x]) (tmps : Array Value) (P : Program) (w : World) :
    (results fn tmps).run P w = .ok (.tuple #[tmps.getD t undef, tmps.getD u undef, tmps.getD v undef, tmps.getD x undef]) w := by
  simp [results, h]
theorem str_back (s : ByteArray) : (⟨s.data.toList.toArray⟩ : ByteArray) = s := by obtain ⟨d⟩ := s; simp
theorem own_low {w w' : World} {B base : Nat} {e : TypeId} {size : Nat} {v : Value} {n : Nat} {xs : List Value} (hg : w.grownBy w' v.ownBlock) (h : w.ownsRow base e size v n xs) (hB : B ≤ base) (hs : B ≤ w.heap.size) : Below B w w' :=
  ⟨hg.os, hg.tape, hg.output, hg.size, fun i hi => hg.block i (by omega) (fun e => by have := (h.lt i e.symm).1; omega)⟩
end Go.Proofs.YteebehmmfkapgaaDoor
