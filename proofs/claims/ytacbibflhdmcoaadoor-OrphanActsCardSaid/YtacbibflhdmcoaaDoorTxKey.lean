/- Points as keys of a map. -/
import Derived.Test.YtacbibflhdmcoaaDoorTxSame
import Derived.Test.YtacbibflhdmcoaaDoorTxCheckP
import Derived.DeepKeys4
import Derived.Maps.OwnSet
namespace Go.Proofs.YtacbibflhdmcoaaDoor.T7
open Go.RowKit Go.Deep
set_option linter.unusedVariables false
set_option linter.unusedSimpArgs false
set_option maxRecDepth 100000

theorem laidOut7 : laidOutB Tryd.prog = true := by kernel_rfl
theorem pt_klaw : WideMaps.KeyLaw Tryd.prog 78 := deep_law_laid laidOut7 (m := 4) (by omega) (of_decide_eq_true (by kernel_rfl)) (by kernel_rfl) (by kernel_rfl)
theorem pt_law : Maps.Keyed Tryd.prog 78 :=
  Maps.Keyed.of_law pt_klaw
theorem pt_keyType : Tryd.prog.keyType 78 = true := by kernel_rfl
theorem pt_size : Tryd.prog.cellsOf 78 = 33 := by kernel_rfl
theorem hash_size : Tryd.prog.cellsOf 54 = 32 := by kernel_rfl
theorem u8_size : Tryd.prog.cellsOf 5 = 1 := by kernel_rfl
theorem u32_size : Tryd.prog.cellsOf 31 = 1 := by kernel_rfl
theorem types_size : ∃ m, Tryd.prog.types.size + 1 = m + 3 := by
  have h : 2 ≤ Tryd.prog.types.size := of_decide_eq_true (by kernel_rfl)
  exact ⟨Tryd.prog.types.size - 2, by omega⟩
theorem mapM_some {α β : Type} {f : α → Option β} : ∀ {l : List α}, (∀ x ∈ l, ∃ y, f x = some y) → ∃ ys, l.mapM f = some ys
  | [], _ => ⟨[], by simp⟩
  | x :: l, h => by
    obtain ⟨y, hy⟩ := h x (by simp)
    obtain ⟨ys, hys⟩ := mapM_some fun z hz => h z (List.mem_cons_of_mem _ hz)
    exact ⟨y :: ys, by rw [List.mapM_cons, hy, hys]; rfl⟩
theorem hash_lits (d : Nat) (h : List UInt8) (hl : h.length = 32) : ∃ ls, Tryd.prog.keyLits (d + 2) 54 (h.map byteV) = some ls := by
  unfold Program.keyLits
  simp only [Tryd.underlying54]
  rw [if_pos (by rw [hash_size, List.length_map, hl])]
  obtain ⟨ys, hys⟩ := mapM_some (l := List.range 32) (f := fun i => Tryd.prog.keyLits (d + 1) 5 (((h.map byteV).drop (i * Tryd.prog.cellsOf 5)).take (Tryd.prog.cellsOf 5))) (fun i hi => by
    have hi' : i < h.length := by rw [hl]; exact List.mem_range.1 hi
    rw [u8_size, Nat.mul_one]
    have e : ((h.map byteV).drop i).take 1 = [byteV h[i]] := by
      rw [List.drop_eq_getElem_cons (by simpa using hi')]; simp
    rw [e]
    unfold Program.keyLits
    simp only [Tryd.underlying5, byteV]
    refine ⟨_, if_pos ⟨trivial, ?_⟩⟩
    have := h[i].toNat_lt
    simp [Lit.wf, IntKind.min, IntKind.max, IntKind.signed, IntKind.bits]
    omega)
  rw [hys]
  exact ⟨_, rfl⟩
theorem pt_key (p : Pt) (hn : p.n < 4294967296) : ∃ kl, keyOf Tryd.prog 78 (.agg p.cells.toArray) = some kl := by
  obtain ⟨m, hm⟩ := types_size
  obtain ⟨l1, h1⟩ := hash_lits m p.h p.len
  have h2 : Tryd.prog.keyLits (m + 2) 31 [.int .u32 (p.n : Int)] = some [.int .u32 (p.n : Int)] := by
    unfold Program.keyLits
    simp only [Tryd.underlying31]
    refine if_pos ⟨trivial, ?_⟩
    simp [Lit.wf, IntKind.min, IntKind.max, IntKind.signed, IntKind.bits]
    omega
  unfold keyOf
  simp only [Tryd.underlying78]
  rw [if_pos (by rw [pt_keyType, Bool.true_and]; simp only [Value.formed, Tryd.underlying78]; rw [List.size_toArray, Pt.cells_len, pt_size]; rfl), hm]
  unfold Program.keyLits
  simp only [Tryd.underlying78, Value.cells]
  rw [if_pos ⟨by rw [pt_size]; simp [Pt.cells_len], by kernel_rfl⟩]
  simp only [List.mapM_cons, List.mapM_nil, List.drop_zero, hash_size, u32_size]
  have e1 : (p.cells.take 32) = p.h.map byteV := by unfold Pt.cells; rw [List.take_left' (by rw [List.length_map, p.len])]
  have e2 : (p.cells.drop 32).take 1 = [.int .u32 (p.n : Int)] := by unfold Pt.cells; rw [List.drop_left' (by rw [List.length_map, p.len])]; rfl
  rw [e1, h1, e2, h2]
  exact ⟨_, rfl⟩
noncomputable def ptLit (p : Pt) : Lit := (keyOf Tryd.prog 78 (.agg p.cells.toArray)).getD (.bool false)
theorem ptLit_key (p : Pt) (hn : p.n < 4294967296) : keyOf Tryd.prog 78 (.agg p.cells.toArray) = some (ptLit p) := by
  obtain ⟨kl, h⟩ := pt_key p hn
  unfold ptLit
  rw [h]; rfl
theorem ptLit_inj {p q : Pt} (hp : p.n < 4294967296) (hq : q.n < 4294967296) (h : ptLit p = ptLit q) : p.h = q.h ∧ p.n = q.n := by
  have h1 := ptLit_key p hp
  have h2 := ptLit_key q hq
  rw [← h] at h2
  have := pt_law.inj h1 h2
  injection this with this
  have hc : p.cells = q.cells := by simpa using this
  unfold Pt.cells at hc
  have := List.append_inj hc (by rw [List.length_map, List.length_map, p.len, q.len])
  refine ⟨?_, ?_⟩
  · refine (List.map_inj_right ?_).1 this.1
    intro a b hab
    unfold byteV at hab
    injection hab with _ hab
    exact UInt8.toNat_inj.1 (by omega)
  · have := this.2
    simp only [List.cons.injEq, Value.int.injEq, and_true, true_and] at this
    omega
/-- a map whose keys are the points of these inputs -/
structure Seen {H : Type} (D : DataW H) (l : List Txs.In) : Prop where
  tidy : Maps.Tidy D
  has : ∀ p : Pt, p.n < 4294967296 → Maps.has D (ptLit p) = (Txs.pts l).any (fun q => decide (q = (p.h, p.n)))
  le : Maps.size D ≤ l.length
  iff : Txs.apart l = decide (Maps.size D = l.length)
theorem Seen.nil {H : Type} : Seen (.map [] : DataW H) [] := ⟨Maps.tidy_empty, fun p _ => by simp [Maps.has_eq, Txs.pts], Nat.le_refl _, by simp [Txs.apart_nil, Maps.size_eq]⟩
theorem Seen.put {H : Type} {D : DataW H} {l : List Txs.In} (h : Seen D l) (x : Txs.In) (hx : x.Ok) (d : DataW H) : Seen (D.put (ptLit (ptOf x hx)) d) (l ++ [x]) := by
  have hk := pt_law.key (ptLit_key (ptOf x hx) hx.2)
  have hsz := Maps.size_put (k := ptLit (ptOf x hx)) h.tidy d
  have hx1 := h.has (ptOf x hx) hx.2
  have ep : Txs.pts (l ++ [x]) = Txs.pts l ++ [(x.hash, x.n)] := by unfold Txs.pts; simp
  refine ⟨h.tidy.put hk d, fun p hp => ?_, ?_, ?_⟩
  · rw [ep, List.any_append]
    by_cases he : ptLit p = ptLit (ptOf x hx)
    · have hi := ptLit_inj hp (show (ptOf x hx).n < 4294967296 from hx.2) he
      rw [he, Maps.has_put_same h.tidy.isMap hk]
      have : (x.hash, x.n) = (p.h, p.n) := by rw [hi.1, hi.2]; rfl
      simp [this]
    · rw [Maps.has_put_other he, h.has p hp]
      have : ¬ (x.hash, x.n) = (p.h, p.n) := by
        intro e
        injection e with e1 e2
        refine he ?_
        unfold ptLit Pt.cells ptOf
        rw [← e1, ← e2]
      simp [this]
  · have := h.le
    rw [hsz, List.length_append]
    split <;> simp <;> omega
  · have hle := h.le
    rw [Txs.apart_cons_of_snoc, h.iff, hsz, List.length_append]
    have hx2 : Maps.has D (ptLit (ptOf x hx)) = (Txs.pts l).any fun q => decide (q = (x.hash, x.n)) := hx1
    rw [hx2]
    cases (Txs.pts l).any fun q => decide (q = (x.hash, x.n)) with
    | true => simp; omega
    | false => simp
end Go.Proofs.YtacbibflhdmcoaaDoor.T7
