/- OrphA, merged: Orph, Later, OrphSmall, OrphHas, OrphRHas, OrphIds, OrphHeavy, OrphActP. -/
import Derived.Test.YtacbibflhdmcoaaDoorTxRows
import Derived.Test.YtacbibflhdmcoaaDoorBase
import Derived.Test.YtacbibflhdmcoaaDoorRowBk
import Derived.Test.YtacbibflhdmcoaaDoorTxPoints
import Derived.Test.YtacbibflhdmcoaaDoorTxGuard
import Derived.Lib.SmallJoins
/- How the pool of transactions that wait lies in memory. -/
namespace Go.Proofs.YtacbibflhdmcoaaDoor.O14
open Go.RowKit Go.Deep T7
set_option linter.unusedVariables false
set_option linter.unusedSimpArgs false
set_option maxRecDepth 100000

/-- one that waits: who brought it, what, its id, till when -/
structure Ent where
  src : Int
  tx : Txs.Tx
  id : List UInt8
  fin : Nat
def Ent.Ok (e : Ent) : Prop := e.id.length = 32 ∧ e.fin < 18446744073709551616 ∧ e.tx.Ok
/-- φ holds, and does so whatever becomes of the blocks T and of new memory -/
def Pers (T : Nat → Prop) (w : World) (φ : World → Prop) : Prop := ∀ W, Kp T w W → φ W
section
variable {T T' S : Nat → Prop} {w w' : World} {φ : World → Prop}
theorem Pers.now (h : Pers T w φ) : φ w := h w (Kp.refl _ _)
theorem Pers.step (h : Pers T w φ) (k : Kp S w w') (hs : ∀ i, i < w.heap.size → S i → T i) (ht : ∀ i, i < w.heap.size → T' i → T i) : Pers T' w' φ :=
  fun W hW => h W ((k.mono hs).trans_of hW ht)
theorem Pers.kp (h : Pers T w φ) (k : Kp S w w') (hs : ∀ i, i < w.heap.size → S i → T i) : Pers T w' φ := h.step k hs fun _ _ h => h
theorem Pers.less (h : Pers T w φ) (ht : ∀ i, i < w.heap.size → T' i → T i) : Pers T' w φ := h.step (Kp.refl (fun _ => False) w) (fun _ _ h => h.elim) ht
end
/-- a transaction's rows, where nothing of T touches them -/
def TxPers (T : Nat → Prop) (w : World) (t : Txs.Tx) (i o : Value) : Prop :=
  ∃ A c A' c', i = .slice A t.ins.length c ∧ o = .slice A' t.outs.length c' ∧ Pers T w fun W => TxAt W W.heap.size t A c A' c'
section
variable {T T' S : Nat → Prop} {w w' : World} {t : Txs.Tx} {i o : Value}
theorem TxPers.step (h : TxPers T w t i o) (k : Kp S w w') (hs : ∀ i, i < w.heap.size → S i → T i) (ht : ∀ i, i < w.heap.size → T' i → T i) : TxPers T' w' t i o := by
  obtain ⟨A, c, A', c', h1, h2, h3⟩ := h
  exact ⟨A, c, A', c', h1, h2, h3.step k hs ht⟩
theorem TxPers.of_new {B : Nat} {A A' : Option Addr} {c c' : Nat} (h : TxNew B w t A c A' c') (hT : ∀ i, i < w.heap.size → T i → i < B) : TxPers T w t (.slice A t.ins.length c) (.slice A' t.outs.length c') :=
  ⟨A, c, A', c', rfl, rfl, fun W hW => h W (hW.mono hT)⟩
theorem TxPers.of_at {B : Nat} {A A' : Option Addr} {c c' : Nat} (h : TxAt w B t A c A' c') (hB : B ≤ w.heap.size) (hT : ∀ i, i < w.heap.size → T i → B ≤ i) : TxPers T w t (.slice A t.ins.length c) (.slice A' t.outs.length c') :=
  ⟨A, c, A', c', rfl, rfl, fun W hW => (h.below ⟨hW.os, hW.tape, hW.output, hW.size, fun i hi => hW.block i (by omega) (fun hTi => by have := hT i (by omega) hTi; omega)⟩).mono (Nat.le_trans hB hW.size)⟩
end
/-- its cells, in the program's pool -/
def entCells (e : Ent) (i o : Value) : List Value := .int .i64 e.src :: .int .u32 (e.tx.version : Int) :: i :: o :: (e.id.map byteV ++ [.int .u64 (e.fin : Int)])
theorem entCells_len {e : Ent} (h : e.id.length = 32) (i o : Value) : (entCells e i o).length = 37 := by
  unfold entCells
  simp only [List.length_cons, List.length_append, List.length_map, h, List.length_nil]
theorem entCells_one (e : Ent) (A A' : Option Addr) (n c n' c' : Nat) : ∀ u ∈ entCells e (.slice A n c) (.slice A' n' c'), u.oneCell' = true := by
  intro u hu
  unfold entCells at hu
  simp only [List.mem_cons, List.mem_append, List.not_mem_nil, or_false] at hu
  rcases hu with rfl | rfl | rfl | rfl | h | rfl
  · rfl
  · rfl
  · rfl
  · rfl
  · exact oneCell_bytes _ u h
  · rfl
def entPair (p : Ent × Value × Value) : List Value := entCells p.1 p.2.1 p.2.2
/-- a row of its own of entries -/
def RowE (T : Nat → Prop) (w : World) (base : Nat) (v : Value) (es : List Ent) : Prop :=
  ∃ us : List (Value × Value), us.length = es.length ∧ w.ownsRow base 96 37 v es.length ((es.zip us).flatMap entPair) ∧
    ∀ i (h : i < es.length), es[i].Ok ∧ ∃ u, us[i]? = some u ∧ TxPers T w es[i].tx u.1 u.2
theorem RowE.nil (T : Nat → Prop) (w : World) (base : Nat) : RowE T w base (.slice none 0 0) [] := ⟨[], rfl, World.ownsRow_nil _ _ _ _, fun i h => by simp at h⟩
theorem RowE.lt {T : Nat → Prop} {w : World} {base : Nat} {v : Value} {es : List Ent} (h : RowE T w base v es) : ∀ i, v.ownBlock = some i → base ≤ i ∧ i < w.heap.size := by
  obtain ⟨us, _, h2, _⟩ := h
  exact own_lt h2
theorem own_kpo {w w' : World} {base : Nat} {e : TypeId} {size : Nat} {v : Value} {n : Nat} {xs : List Value} {S : Nat → Prop} (h : w.ownsRow base e size v n xs) (hk : Kp S w w') (hS : ∀ i, v.ownBlock = some i → ¬ S i) : w'.ownsRow base e size v n xs := by
  refine ⟨h.1, ?_⟩
  rcases h.2 with h | ⟨g, cap, cur, hv, hb, hg, r⟩
  · exact .inl h
  · have hlt : g < w.heap.size := (Array.getElem?_eq_some_iff.1 hg).1
    exact .inr ⟨g, cap, cur, hv, hb, (hk.block g hlt (hS g (by rw [hv]; rfl))).trans hg, r⟩
/-- it stays where its own block stays -/
theorem RowE.kp {T T' S : Nat → Prop} {w w' : World} {base : Nat} {v : Value} {es : List Ent} (h : RowE T w base v es) (hk : Kp S w w') (hv : ∀ i, v.ownBlock = some i → ¬ S i)
    (hs : ∀ i, i < w.heap.size → S i → T i) (ht : ∀ i, i < w.heap.size → T' i → T i) : RowE T' w' base v es := by
  obtain ⟨us, h1, h2, h3⟩ := h
  exact ⟨us, h1, own_kpo h2 hk hv, fun i hi => ⟨(h3 i hi).1, by obtain ⟨u, hu, hp⟩ := (h3 i hi).2; exact ⟨u, hu, hp.step hk hs ht⟩⟩⟩
/-- one more -/
theorem RowE.push {T T' : Nat → Prop} {w w' : World} {base : Nat} {v v' i o : Value} {us : List (Value × Value)} {es : List Ent} {e : Ent} {S : Nat → Prop} (h1 : us.length = es.length)
    (h3 : ∀ i (h : i < es.length), es[i].Ok ∧ ∃ u, us[i]? = some u ∧ TxPers T w es[i].tx u.1 u.2)
    (he : e.Ok) (hx : TxPers T w e.tx i o) (hk : Kp S w w') (hs : ∀ i, i < w.heap.size → S i → T i) (ht : ∀ i, i < w.heap.size → T' i → T i)
    (hrow : w'.ownsRow base 96 37 v' (es.length + 1) ((es.zip us).flatMap entPair ++ entCells e i o)) : RowE T' w' base v' (es ++ [e]) := by
  refine ⟨us ++ [(i, o)], by simp [h1], ?_, fun k hk' => ?_⟩
  · rw [List.zip_append h1.symm, List.flatMap_append, List.length_append]
    simpa [entPair] using hrow
  · rcases Nat.lt_or_ge k es.length with h | h
    · obtain ⟨ho, u', hu', hp⟩ := h3 k h
      rw [List.getElem_append_left h]
      exact ⟨ho, u', by rw [List.getElem?_append_left (by omega)]; exact hu', hp.step hk hs ht⟩
    · have ek : k = es.length := by simp at hk'; omega
      subst ek
      rw [List.getElem_append_right (Nat.le_refl _)]
      simp only [Nat.sub_self, List.getElem_cons_zero]
      exact ⟨he, (i, o), by rw [← h1]; simp, hx.step hk hs ht⟩
/-- entries, wherever they lie -/
def IsEnt (T : Nat → Prop) (w : World) (vs : List Value) (e : Ent) : Prop := e.Ok ∧ ∃ i o, vs = entCells e i o ∧ TxPers T w e.tx i o
theorem RowE.at_ {T : Nat → Prop} {w : World} {base : Nat} {v : Value} {es : List Ent} (h : RowE T w base v es) :
    ∃ A cap, v = .slice A es.length cap ∧ es.length ≤ cap ∧ cap ≤ maxLen ∧ At 37 (IsEnt T w) w w.heap.size A es := by
  obtain ⟨us, h1, h2, h3⟩ := h
  obtain ⟨A, cap, hv, hn, hm, hA, hc⟩ := own_form h2
  have hzl : (es.zip us).length = es.length := by rw [List.length_zip, h1, Nat.min_self]
  have hpl : ∀ p ∈ es.zip us, (entPair p).length = 37 := by
    intro p hp
    obtain ⟨i, hi, rfl⟩ := List.mem_iff_getElem.1 hp
    rw [hzl] at hi
    unfold entPair
    rw [List.getElem_zip]
    exact entCells_len (h3 i hi).1.1 _ _
  refine ⟨A, cap, hv, hn, hm, fun i hi => ?_⟩
  obtain ⟨hok, u, hu, hp⟩ := h3 i hi
  have hz : (es.zip us)[i]'(by omega) = (es[i], u) := by
    rw [List.getElem_zip]
    rw [List.getElem?_eq_some_iff] at hu
    obtain ⟨_, hu⟩ := hu
    rw [hu]
  have hcell : ∀ j (hj : j < (entCells es[i] u.1 u.2).length), ∃ b, A = some ⟨b, 0, none⟩ ∧ base ≤ b ∧ b < w.heap.size ∧ w.cell? ⟨b, i * 37 + j, none⟩ = some (entCells es[i] u.1 u.2)[j] := fun j hj =>
    hc (i * 37 + j) _ (by
      rw [flatMap_index (es.zip us) hpl i (by omega) j (by rw [entCells_len hok.1] at hj; exact hj), hz]
      unfold entPair
      rw [List.getElem?_eq_getElem hj])
  obtain ⟨b, hA, _, hlt, _⟩ := hcell 0 (by rw [entCells_len hok.1]; omega)
  refine ⟨b, 0, _, hA, hlt, ⟨hok, u.1, u.2, rfl, hp⟩, fun j hj => ?_⟩
  obtain ⟨b', hA', _, _, hcj⟩ := hcell j hj
  rw [hA] at hA'
  injection hA' with hA'
  injection hA' with hA' _
  subst hA'
  rw [Nat.zero_add]
  exact hcj
/-- the pool, at block O -/
structure PoolAt (T : Nat → Prop) (w : World) (O base : Nat) (v : Value) (es : List Ent) : Prop where
  bk : Bk w O 82 #[v]
  row : RowE T w base v es
  ne : v.ownBlock ≠ some O
  tO : T O
  tv : ∀ i, v.ownBlock = some i → T i
theorem PoolAt.kp {T T' S : Nat → Prop} {w w' : World} {O base : Nat} {v : Value} {es : List Ent} (h : PoolAt T w O base v es) (hk : Kp S w w') (hO : ¬ S O) (hv : ∀ i, v.ownBlock = some i → ¬ S i)
    (hs : ∀ i, i < w.heap.size → S i → T i) (ht : ∀ i, i < w.heap.size → T' i → T i) (hT : T' O) (hT2 : ∀ i, v.ownBlock = some i → T' i) : PoolAt T' w' O base v es :=
  ⟨h.bk.kp hk hO, h.row.kp hk hv hs ht, h.ne, hT, hT2⟩
end Go.Proofs.YtacbibflhdmcoaaDoor.O14
/- calc.Later and the document's Later, of one addend. -/
set_option linter.unusedVariables false
set_option linter.unusedSimpArgs false
namespace Go.Proofs.YtacbibflhdmcoaaDoor
open Go.RowKit Go.Deep
attribute [local go_sem ↓] Go.wp_at_zero Go.wp_at_succ

theorem addEq (x y : Int) (w : World) (hx : 0 ≤ x) (hy : 0 ≤ y) :
   (callFunc 61 #[.int .u64 x, .int .u64 y, .int .u64 0]).run Tryd.prog w = .ok (.value (.tuple #[.int .u64 ((x + y) % 18446744073709551616), .int .u64 ((x + y) / 18446744073709551616)])) w := by
  rw [run_callFunc_extern (e := add64Entry) Tryd.func61 (by kernel_rfl) (by kernel_rfl) (by kernel_rfl) (by kernel_rfl)]
  rw [run_add64 x y 0 hx hy (by omega) (by omega)]
  simp [Result.andThen]

/-- a time, and so much more -/
def later (t d : Int) : Int := min (t + d) 18446744073709551615

set_option maxHeartbeats 400000 in
theorem later1 (t d : Int) (q : Nat) (w : World) (hx : 0 ≤ t) (hx' : t ≤ 18446744073709551615) (hy : 0 ≤ d) (hy' : d ≤ 18446744073709551615)
   (hc : w.cell? ⟨q, 0, none⟩ = some (.int .u64 d)) :
    Calls Tryd.prog 44 #[.int .u64 t, .slice (some ⟨q, 0, none⟩) 1 1] w fun r w' => r = .returned (.int .u64 (later t d)) ∧ w = w' := by
  have ha := addEq t d w hx hy
  by_cases h : t + d ≤ 18446744073709551615
  · have h1 : (t + d) % 18446744073709551616 = t + d := by omega
    have h2 : (t + d) / 18446744073709551616 = 0 := by omega
    have h3 : later t d = t + d := by unfold later; omega
    rw [h1, h2] at ha
    rw [h3]
    clear h1 h2 h3
    go_enter Tryd.func44, Tryd.ntmps44
    go_wp2
    refine wp_loop_rounds 2 ?_
    rw [rounds_succ]
    go_wp2
    rw [rounds_succ]
    go_wp2
    go_ret
    exact ⟨rfl, rfl⟩
  · have h2 : (t + d) / 18446744073709551616 = 1 := by omega
    have h3 : later t d = 18446744073709551615 := by unfold later; omega
    rw [h2] at ha
    rw [h3]
    clear h2 h3
    go_enter Tryd.func44, Tryd.ntmps44
    go_wp2
    refine wp_loop_rounds 2 ?_
    rw [rounds_succ]
    go_wp2
    go_ret
    exact ⟨rfl, rfl⟩

set_option maxHeartbeats 400000 in
theorem reflater1 (t d : Int) (q : Nat) (w : World) (hx : 0 ≤ t) (hx' : t ≤ 18446744073709551615) (hy : 0 ≤ d) (hy' : d ≤ 18446744073709551615)
   (hc : w.cell? ⟨q, 0, none⟩ = some (.int .u64 d)) :
    Calls Tryd.prog 40 #[.int .u64 t, .slice (some ⟨q, 0, none⟩) 1 1] w fun r w' => r = .returned (.int .u64 (later t d)) ∧ w = w' := by
  by_cases h : t + d ≤ 18446744073709551615
  · have h3 : later t d = t + d := by unfold later; omega
    rw [h3]
    clear h3
    have h4 : d ≤ 18446744073709551615 - t := by omega
    go_enter Tryd.func40, Tryd.ntmps40
    go_wp2
    refine wp_loop_rounds 2 ?_
    rw [rounds_succ]
    go_wp2
    rw [rounds_succ]
    go_wp2
    go_ret
    exact ⟨rfl, rfl⟩
  · have h3 : later t d = 18446744073709551615 := by unfold later; omega
    rw [h3]
    clear h3
    have h4 : 18446744073709551615 - t < d := by omega
    go_enter Tryd.func40, Tryd.ntmps40
    go_wp2
    refine wp_loop_rounds 2 ?_
    rw [rounds_succ]
    go_wp2
    go_ret
    exact ⟨rfl, rfl⟩
end Go.Proofs.YtacbibflhdmcoaaDoor
/- Package orphan: New, ids, All. -/
namespace Go.Proofs.YtacbibflhdmcoaaDoor.O14
open Go.RowKit Go.Deep T7
set_option linter.unusedVariables false
set_option linter.unusedSimpArgs false
set_option maxRecDepth 100000
attribute [local go_sem ↓] Go.wp_at_zero Go.wp_at_succ

/-- a pool without any -/
theorem new_any (w : World) : Calls Tryd.prog 11 #[] w fun e w' => e = .returned (.pointer (some ⟨w.heap.size, 0, none⟩)) ∧ Bk w' w.heap.size 82 #[.slice none 0 0] ∧ Below w.heap.size w w' ∧ w'.heap.size = w.heap.size + 1 := by
  go_enter Tryd.func11, Tryd.ntmps11
  go_wp2_with fail
  go_ret
  exact ⟨rfl, Bk.new _ _ _, Joins.below_alloc1 _ _, by simp⟩
def IsHash (vs : List Value) (l : List UInt8) : Prop := l.length = 32 ∧ vs = l.map byteV
abbrev HashesAt (w : World) (B : Nat) (A : Option Addr) (l : List (List UInt8)) : Prop := At 32 IsHash w B A l
/-- hashes in a row of one's own -/
def IdsAt (B : Nat) (w : World) (v : Value) (l : List (List UInt8)) : Prop := (∀ x ∈ l, x.length = 32) ∧ w.ownsRow B 54 32 v l.length (l.flatMap fun x => x.map byteV)
theorem IdsAt.at_ {B : Nat} {w : World} {v : Value} {l : List (List UInt8)} (h : IdsAt B w v l) : ∃ A c, v = .slice A l.length c ∧ l.length ≤ c ∧ c ≤ maxLen ∧ HashesAt w w.heap.size A l := by
  obtain ⟨A, cap, hv, _, hn, hm, hat⟩ := At.of_own (R := IsHash) (fun x : List UInt8 => x.map byteV) (fun x hx => ⟨by rw [List.length_map]; exact h.1 x hx, h.1 x hx, rfl⟩) (by omega) h.2
  exact ⟨A, cap, hv, hn, hm, hat⟩
/-- an entry's cells, whatever becomes of its transaction -/
def IsE0 (vs : List Value) (e : Ent) : Prop := e.id.length = 32 ∧ ∃ A n c A' n' c', vs = entCells e (.slice A n c) (.slice A' n' c')
theorem IsEnt.e0 {T : Nat → Prop} {w : World} {vs : List Value} {e : Ent} (h : IsEnt T w vs e) : IsE0 vs e := by
  obtain ⟨hk, i, o, hv, A, c, A', c', h1, h2, _⟩ := h
  subst h1; subst h2
  exact ⟨hk.1, _, _, _, _, _, _, hv⟩
theorem At.range0 {w : World} {B : Nat} {A : Option Addr} {l : List Ent} (h : At 37 IsE0 w B A l) {i : Nat} (hi : i < l.length) :
    ∃ b off A1 n1 c1 A2 n2 c2, A = some ⟨b, off, none⟩ ∧ b < B ∧ w.rangeAt b (off + i * 37) (entCells l[i] (.slice A1 n1 c1) (.slice A2 n2 c2)) ∧ l[i].id.length = 32 := by
  obtain ⟨b, off, vs, hA, hb, ⟨hk, A1, n1, c1, A2, n2, c2, hvs⟩, hc⟩ := h i hi
  refine ⟨b, off, A1, n1, c1, A2, n2, c2, hA, hb, fun j v hv => ?_, hk⟩
  rw [← hvs] at hv
  obtain ⟨hj, rfl⟩ := List.getElem?_eq_some_iff.1 hv
  exact hc j hj
theorem size_ent : (Tryd.prog.info? 96).map (·.size) = some 37 := by kernel_rfl
theorem size_hash0 : (Tryd.prog.info? 54).map (·.size) = some 32 := by kernel_rfl
theorem zero_ent : (Tryd.prog.info? 96).map (·.zero) = some (some (.agg (entCells ⟨0, Txs.none, List.replicate 32 0, 0⟩ (.slice none 0 0) (.slice none 0 0)).toArray)) := by kernel_rfl
theorem zeroEnt_len : (entCells ⟨0, Txs.none, List.replicate 32 0, 0⟩ (.slice none 0 0) (.slice none 0 0)).toArray.size = 37 := by simp [entCells]
theorem hash_info0 : (Tryd.prog.info? 54).map (fun i => (i.zero, i.size, i.bytes)) = some (some (.agg ((List.replicate 32 (0 : UInt8)).map byteV).toArray), 32, 32) := by kernel_rfl
theorem ent_id {w : World} {b o : Nat} {e : Ent} {i u : Value} (h : w.rangeAt b o (entCells e i u)) : w.rangeAt b (o + 4) (e.id.map byteV) := by
  intro j v hv
  have := h (4 + j) v (by
    unfold entCells
    rw [show 4 + j = j + 1 + 1 + 1 + 1 by omega]
    simp only [List.getElem?_cons_succ]
    rw [List.getElem?_append_left (List.getElem?_eq_some_iff.1 hv).1]
    exact hv)
  rw [← Nat.add_assoc] at this
  exact this
set_option maxHeartbeats 2000000 in
theorem ids_any (es : List Ent) (A : Option Addr) (c B : Nat) (w : World) (h : At 37 IsE0 w B A es) (hB : B ≤ w.heap.size) (hn : es.length ≤ 1000) :
    Calls Tryd.prog 41 #[.slice A es.length c] w fun e w' => ∃ A1 c1, e = .returned (.slice A1 es.length c1) ∧ IdsAt w.heap.size w' (.slice A1 es.length c1) (es.map Ent.id) ∧ Below w.heap.size w w' := by
  have HI := Lib.hid h
  have HOKS := Lib.hid (show ∀ x ∈ es, x.id.length = 32 from all_of_at h fun _ x hx => hx.1)
  clear h
  obtain ⟨n, hn'⟩ : ∃ n, n = es.length := ⟨_, rfl⟩
  rw [← hn'] at hn ⊢
  have HN := Lib.hid hn'
  have hmk := run_make_rows (P := Tryd.prog) 36 54 _ 32 32 Tryd.underlying36 hash_info0 .i64 .i64 n (by omega) (by omega)
  obtain ⟨z0, hz0⟩ : ∃ z0, z0 = madeCells (Value.agg ((List.replicate 32 (0 : UInt8)).map byteV).toArray).cells (n * 32) := ⟨_, rfl⟩
  rw [← hz0] at hmk
  obtain ⟨cs0, hcs0⟩ : ∃ cs0, cs0 = z0.toList := ⟨_, rfl⟩
  have HZL := Lib.hid (show cs0.length = n * 32 by rw [hcs0, hz0, Array.length_toList, size_madeCells])
  have hz1 : z0 = cs0.toArray := by rw [hcs0]
  rw [hz1] at hmk
  clear hz0 hcs0 hz1 hn'
  go_enter Tryd.func41, Tryd.ntmps41
  go_upto_region 2 with (fail)
  obtain ⟨g, hg⟩ : ∃ g, g = w.heap.size := ⟨_, rfl⟩
  obtain ⟨w2, hw2⟩ : ∃ w2, w2 = w.alloc (.cells cs0.toArray 54) := ⟨_, rfl⟩
  rw [← hw2, ← hg]
  have HK2 := Lib.hid (show Bk w2 g 54 cs0.toArray by rw [hw2, hg]; exact Bk.new _ _ _)
  have HB2 := Lib.hid (show Below w.heap.size w w2 by rw [hw2]; exact Joins.below_alloc1 _ _)
  have hgw : w.heap.size ≤ g := by omega
  clear hw2 hg hmk
  go_wp2_with fail
  go_loopw [11] (fun iv wr => ∃ (k : Nat) (cs : List Value), k ≤ n ∧ iv = .int .i64 (k : Int) ∧ Hid (Bk wr g 54 cs.toArray) ∧ Hid (RowTo (fun e : Ent => e.id.map byteV) 32 n k es cs) ∧ Hid (Below w.heap.size w wr)) (fun iv _ => n - (intOf iv).toNat)
  case atStart => exact ⟨0, cs0, Nat.zero_le _, rfl, HK2, Lib.hid (RowTo.zero _ _ _ _ _ HZL.out), HB2⟩
  case round =>
    obtain ⟨k, cs, hk, rfl, hbk, hrow, hb⟩ := hrel
    have hgl := hbk.out.lt
    by_cases hlt : k < n
    · have hlt1 : k < es.length := by rw [← HN.out]; exact hlt
      obtain ⟨b, off, A1, n1, c1, A2, n2, c2, rfl, hbB, hr, hok⟩ := At.range0 (At.below HI.out (hb.out.mono hB)) hlt1
      have HNX := Lib.hid (hrow.out.next hlt1 hlt (by rw [List.length_map]; exact hok))
      have i1 : (0 : Int) ≤ (k : Int) := by omega
      have i2 : (k : Int) < (n : Int) := by omega
      generalize es[k] = x at *
      obtain ⟨wx, hwx⟩ : ∃ wx, wx = wr.alloc (.cells (entCells x (.slice A1 n1 c1) (.slice A2 n2 c2)).toArray 96) := ⟨_, rfl⟩
      have HBX := Lib.hid (show Below w.heap.size w wx by rw [hwx]; exact hb.out.alloc hb.out.size _)
      have HKX := Lib.hid (show Bk wx g 54 cs.toArray by rw [hwx]; exact hbk.out.alloc _)
      have HB3 : Bk wx wr.heap.size 96 (entCells x (.slice A1 n1 c1) (.slice A2 n2 c2)).toArray := by rw [hwx]; exact Bk.new _ _ _
      have HRP := Lib.hid (show wx.rangeAt wr.heap.size 4 (x.id.map byteV) from by have := ent_id (bk_range HB3); simpa using this)
      have L1 := Lib.hid (show (x.id.map byteV).length = 32 by rw [List.length_map]; exact hok)
      have HPO := Lib.hid (all_one (oneCell_bytes x.id))
      have HR := Lib.hid hr
      have HL := Lib.hid (entCells_len hok (.slice A1 n1 c1) (.slice A2 n2 c2))
      have HONE := Lib.hid (entCells_one x A1 A2 n1 c1 n2 c2)
      generalize hcs : entCells x (.slice A1 n1 c1) (.slice A2 n2 c2) = xs at *
      generalize x.id.map byteV = ps at *
      have HTH := Lib.hid (bk_there HKX.out (k * 32) ps.toArray.size (by rw [hrow.out.len]; have := L1.out; simp; have := Nat.mul_le_mul_right 32 (show k + 1 ≤ n by omega); omega))
      have HZI := zero_ent
      have HZL := Lib.hid zeroEnt_len
      generalize (entCells ⟨0, Txs.none, List.replicate 32 0, 0⟩ (.slice none 0 0) (.slice none 0 0)).toArray = zs at *
      have HZI := Lib.hid HZI
      clear hcs hr hok HB3
      go_upto_region 5 with (refine wpList_elem2 rfl rfl rfl rfl 96 (.tmp 14) (.tmp 5) (.tmp 15) (.tmp 13) rfl rfl rfl rfl b (off + k * 37) (by rfl) xs _ HR.out Tryd.underlying96 rfl (by rw [HL.out]; exact size_ent) zs HZI.out (by rw [HZL.out, HL.out]) HONE.out (.int .i64 (k : Int)) (by rfl) (by rfl) (by rfl) ?_)
      rw [← hwx]
      clear hwx
      go_wp2_with (first
        | (refine wpList_load_mid rfl 54 (.tmp 18) rfl wr.heap.size 4 (by rfl) ps _ HRP.out Tryd.underlying54 rfl (by rw [L1.out]; exact size_hash0) ?_)
        | (refine wpList_store_mid rfl 54 (.tmp 20) (.tmp 19) rfl g (k * 32) ps.toArray (by rfl) (by rfl) HTH.out (by rw [List.size_toArray, L1.out]; exact size_hash0) HPO.out ?_))
      go_roundw
      case rel =>
        exact ⟨k + 1, _, by omega, by go_num, Lib.hid (bk_setCells ps (k * 32) wx cs HKX.out (by rw [hrow.out.len, L1.out]; have := Nat.mul_le_mul_right 32 (show k + 1 ≤ n by omega); omega)), HNX, Lib.hid (below_setCells hgw _ _ _ HBX.out)⟩
      case measure => simp [intOf]; omega
    · obtain rfl : k = n := by omega
      have hcs := hrow.out.all HN.out.symm
      have hfm : ∀ l : List Ent, l.flatMap (fun e : Ent => e.id.map byteV) = (l.map Ent.id).flatMap (fun l => l.map byteV) := fun l => by induction l with
        | nil => rfl
        | cons x l ih => simp [ih]
      have HA := Lib.hid (show IdsAt w.heap.size wr (.slice (some ⟨g, 0, none⟩) k k) (es.map Ent.id) from ⟨fun x hx => by
        obtain ⟨e, he, rfl⟩ := List.mem_map.1 hx
        exact HOKS.out e he, by rw [← hfm, ← hcs, hrow.out.len, List.length_map, HN.out], .inr ⟨g, k, cs.toArray, by rw [List.length_map, ← HN.out], hgw, hbk.out, by rw [List.length_map, ← HN.out]; exact Nat.le_refl _, by unfold maxLen; omega, by rw [List.size_toArray, hrow.out.len], by
        rw [List.length_map, ← HN.out, List.toList_toArray, ← hfm, ← hcs, List.take_of_length_le (by rw [hrow.out.len]; exact Nat.le_refl _)]⟩⟩)
      clear hcs hfm
      go_wp2_with fail
      go_ret
      exact ⟨_, _, rfl, HA.out, hb.out⟩
/-- all ids -/
theorem all_any (T : Nat → Prop) (es : List Ent) (O base : Nat) (v : Value) (w : World) (h : PoolAt T w O base v es) (hn : es.length ≤ 1000) :
    Calls Tryd.prog 18 #[.pointer (some ⟨O, 0, none⟩)] w fun e w' => ∃ A1 c1, e = .returned (.slice A1 es.length c1) ∧ IdsAt w.heap.size w' (.slice A1 es.length c1) (es.map Ent.id) ∧ Below w.heap.size w w' := by
  obtain ⟨A, cap, hv, hc, hm, hat⟩ := h.row.at_
  have HC := Lib.hid (ids_any es A cap w.heap.size w (At.imp hat fun _ _ h => h.e0) (Nat.le_refl _) hn)
  subst hv
  have c0 : w.cell? ⟨O, 0, none⟩ = some (.slice A es.length cap) := (h.bk.cell 0).trans rfl
  clear h hat
  go_enter Tryd.func18, Tryd.ntmps18
  go_wp2_with fail
  refine HC.out.mono ?_
  rintro e w' ⟨A1, c1, rfl, h3, h4⟩
  go_wp2_with fail
  go_ret
  exact ⟨_, _, rfl, h3, h4⟩
end Go.Proofs.YtacbibflhdmcoaaDoor.O14
/- Package orphan: Has. -/
namespace Go.Proofs.YtacbibflhdmcoaaDoor.O14
open Go.RowKit Go.Deep T7
set_option linter.unusedVariables false
set_option linter.unusedSimpArgs false
set_option maxRecDepth 100000
attribute [local go_sem ↓] Go.wp_at_zero Go.wp_at_succ

theorem guard_hash : Tryd.prog.eqGuardType Tryd.prog.depth 54 = false := by kernel_rfl
theorem wpQuiet_eq_hash {ops : Array Oper} {C : World → Prop} {Q : Act → Prop} {a : Act} {o : Oper} {rest : List Oper} (hgd : o.guard = none) (x y : Operand) (b : TypeId) (ho : o.op = .binOp .eql 54 x y b)
    (p q : List UInt8) (hp : p.length = 32) (hq : q.length = 32) (hx : a.eval x = .agg (p.map byteV).toArray) (hy : a.eval y = .agg (q.map byteV).toArray) (r : Bool) (hr : decide (p = q) = r)
    (h : wpQuiet Tryd.prog ops C Q rest (a.put o.dst (.bool r))) : wpQuiet Tryd.prog ops C Q (o :: rest) a :=
  wpQuiet_step fun K hK => by
    rw [if_pos (by simp [Region.wanted, hgd])]
    refine ⟨.bool r, fun w hw => ?_, hK _ h⟩
    subst hr
    unfold Oper.quietAt execOp
    simp only [ho, hx, hy, Sem.run_bind, run_eqGuard_agg w .eql 54 x y _ _ guard_hash, Result.andThen_ok, run_eq_hash w p q hp hq, Sem.run_pure]
    exact ⟨rfl, rfl⟩
theorem any_snoc {α : Type} {l : List α} {k : Nat} (hk : k < l.length) (p : α → Bool) (h : (l.take k).any p = false) (h2 : p l[k] = false) : (l.take (k + 1)).any p = false := by
  rw [List.take_succ_eq_append_getElem hk, List.any_append, h]
  simp [h2]
set_option maxHeartbeats 2000000 in
theorem has_any (T : Nat → Prop) (es : List Ent) (O base : Nat) (v : Value) (id : List UInt8) (hid : id.length = 32) (w : World) (h : PoolAt T w O base v es) (hn : es.length ≤ 1000) :
    Calls Tryd.prog 23 #[.pointer (some ⟨O, 0, none⟩), .agg (id.map byteV).toArray] w fun e w' => e = .returned (.bool (es.any fun x => decide (x.id = id))) ∧ Below w.heap.size w w' := by
  obtain ⟨A, cap, hv, hc, hm, hat⟩ := h.row.at_
  have HI := Lib.hid (show At 37 IsE0 w w.heap.size A es from At.imp hat fun _ _ h => h.e0)
  subst hv
  have HO := Lib.hid h.bk
  have HL := Lib.hid hid
  clear h hat hid
  obtain ⟨ia, hia⟩ : ∃ ia, ia = (id.map byteV).toArray := ⟨_, rfl⟩
  have HIA := Lib.hid hia
  rw [← hia]
  obtain ⟨w1, hw1⟩ : ∃ w1, w1 = w.alloc (.cells ia 54) := ⟨_, rfl⟩
  have HB1 := Lib.hid (show Below w.heap.size w w1 by rw [hw1]; exact Joins.below_alloc1 _ _)
  have HX1 := Lib.hid (show Bk w1 w.heap.size 54 ia by rw [hw1]; exact Bk.new _ _ _)
  have HZ1 := Lib.hid (show w1.heap.size = w.heap.size + 1 by rw [hw1]; simp)
  have HO1 := Lib.hid (HO.out.below HB1.out HO.out.lt)
  have c0 : w1.cell? ⟨O, 0, none⟩ = some (.slice A es.length cap) := (HO1.out.cell 0).trans rfl
  clear hia
  go_enter Tryd.func23, Tryd.ntmps23
  go_upto_region 1 with (fail)
  rw [← hw1]
  clear hw1
  go_wp2_with fail
  go_loopw [13] (fun iv wr => ∃ k : Nat, iv = .int .i64 (k : Int) ∧ k ≤ es.length ∧ Hid ((es.take k).any (fun x => decide (x.id = id)) = false) ∧ Hid (Below w1.heap.size w1 wr)) (fun iv _ => es.length - (intOf iv).toNat)
  case atStart => exact ⟨0, rfl, Nat.zero_le _, Lib.hid (by simp), Lib.hid (Below.refl _ _)⟩
  case round =>
    obtain ⟨k, rfl, hk, hno, hb⟩ := hrel
    have HBR := Lib.hid (HB1.out.trans (hb.out.mono HB1.out.size))
    by_cases hlt : k < es.length
    · obtain ⟨b, off, A1, n1, c1, A2, n2, c2, rfl, hbB, hr, hok⟩ := At.range0 (At.below HI.out HBR.out) hlt
      have i1 : (0 : Int) ≤ (k : Int) := by omega
      have i2 : (k : Int) < (es.length : Int) := by omega
      have HR := Lib.hid (ent_id hr)
      have HXR := Lib.hid (show wr.rangeAt w.heap.size 0 (id.map byteV) from bk_range (by rw [← HIA.out]; exact HX1.out.below hb.out (by rw [HZ1.out]; omega)))
      have cO : wr.cell? ⟨O, 0, none⟩ = some (.slice (some ⟨b, off, none⟩) es.length cap) := ((HO1.out.below hb.out HO1.out.lt).cell 0).trans rfl
      have L1 := Lib.hid (show (es[k].id.map byteV).length = 32 by rw [List.length_map]; exact hok)
      have L2 := Lib.hid (show (id.map byteV).length = 32 by rw [List.length_map]; exact HL.out)
      have HOK := Lib.hid hok
      have HNX := Lib.hid (fun h => any_snoc hlt (fun x : Ent => decide (x.id = id)) hno.out h)
      have HYE := Lib.hid (fun (h : decide (es[k].id = id) = true) => (List.any_eq_true.2 ⟨es[k], List.getElem_mem hlt, h⟩ : es.any (fun x => decide (x.id = id)) = true))
      generalize es[k] = x at *
      clear hr hok c0
      go_upto_region 6 with (fail)
      cases hpn : decide (x.id = id) with
      | true =>
        refine wp_region_quiet_lit (by kernel_rfl) (by kernel_rfl) ?_
        iterate 7 (go_big_quiet_step (fail))
        (refine wpQuiet_load_mid rfl 54 (.tmp 22) rfl b (off + k * 37 + 4) (by rfl) (x.id.map byteV) _ (fun w' ⟨n, e⟩ => by subst e; exact HR.out) Tryd.underlying54 rfl (by rw [L1.out]; exact size_hash0) ?_; go_frame)
        (refine wpQuiet_load_mid rfl 54 (.tmp 3) rfl w.heap.size 0 (by rfl) (id.map byteV) _ (fun w' ⟨n, e⟩ => by subst e; exact HXR.out) Tryd.underlying54 rfl (by rw [L2.out]; exact size_hash0) ?_; go_frame)
        (refine wpQuiet_eq_hash rfl (.tmp 23) (.tmp 24) _ rfl x.id id HOK.out HL.out (by rfl) (by rfl) true hpn ?_; go_frame)
        refine wpQuiet_nil ?_
        intro _ hw'
        obtain ⟨nq, hw''⟩ := hw'
        subst hw''
        have HEND := Lib.hid (below_drewN HBR.out nq)
        have HY := Lib.hid (HYE.out hpn)
        go_wp2_with fail
        go_ret
        exact ⟨ret_bool HY.out.symm, HEND.out⟩
      | false =>
        refine wp_region_quiet_lit (by kernel_rfl) (by kernel_rfl) ?_
        iterate 7 (go_big_quiet_step (fail))
        (refine wpQuiet_load_mid rfl 54 (.tmp 22) rfl b (off + k * 37 + 4) (by rfl) (x.id.map byteV) _ (fun w' ⟨n, e⟩ => by subst e; exact HR.out) Tryd.underlying54 rfl (by rw [L1.out]; exact size_hash0) ?_; go_frame)
        (refine wpQuiet_load_mid rfl 54 (.tmp 3) rfl w.heap.size 0 (by rfl) (id.map byteV) _ (fun w' ⟨n, e⟩ => by subst e; exact HXR.out) Tryd.underlying54 rfl (by rw [L2.out]; exact size_hash0) ?_; go_frame)
        (refine wpQuiet_eq_hash rfl (.tmp 23) (.tmp 24) _ rfl x.id id HOK.out HL.out (by rfl) (by rfl) false hpn ?_; go_frame)
        refine wpQuiet_nil ?_
        intro _ hw'
        obtain ⟨nq, hw''⟩ := hw'
        subst hw''
        have HEND := Lib.hid (below_drewN hb.out nq)
        have HN := Lib.hid (HNX.out hpn)
        go_wp2_with fail
        go_roundw
        case rel => exact ⟨k + 1, by go_num, by omega, HN, HEND⟩
        case measure => simp [intOf]; omega
    · have hkl : k = es.length := by omega
      have HF := Lib.hid (show es.any (fun x => decide (x.id = id)) = false by have := hno.out; rwa [hkl, List.take_of_length_le (Nat.le_refl _)] at this)
      go_wp2_with fail
      go_ret
      exact ⟨ret_bool HF.out.symm, HBR.out⟩
end Go.Proofs.YtacbibflhdmcoaaDoor.O14
/- The document's Has: is an id among these? -/
namespace Go.Proofs.YtacbibflhdmcoaaDoor.O14
open Go.RowKit Go.Deep T7
set_option linter.unusedVariables false
set_option linter.unusedSimpArgs false
set_option maxRecDepth 100000
attribute [local go_sem ↓] Go.wp_at_zero Go.wp_at_succ

theorem HashesAt.range {w : World} {B : Nat} {A : Option Addr} {l : List (List UInt8)} (h : HashesAt w B A l) {i : Nat} (hi : i < l.length) :
    ∃ b off, A = some ⟨b, off, none⟩ ∧ b < B ∧ w.rangeAt b (off + i * 32) (l[i].map byteV) ∧ l[i].length = 32 := by
  obtain ⟨b, off, vs, hA, hb, ⟨hk, hvs⟩, hc⟩ := h i hi
  refine ⟨b, off, hA, hb, fun j v hv => ?_, hk⟩
  rw [← hvs] at hv
  obtain ⟨hj, rfl⟩ := List.getElem?_eq_some_iff.1 hv
  exact hc j hj
theorem zero_hash0 : (Tryd.prog.info? 54).map (·.zero) = some (some (.agg ((List.replicate 32 (0 : UInt8)).map byteV).toArray)) := by kernel_rfl
set_option maxHeartbeats 2000000 in
theorem rhas_any (l : List (List UInt8)) (A : Option Addr) (c B : Nat) (id : List UInt8) (hid : id.length = 32) (w : World) (h : HashesAt w B A l) (hB : B ≤ w.heap.size) (hl : l.length ≤ 1000000) :
    Calls Tryd.prog 22 #[.slice A l.length c, .agg (id.map byteV).toArray] w fun e w' => e = .returned (.bool (l.any fun x => decide (x = id))) ∧ Below w.heap.size w w' := by
  have HI := Lib.hid h
  have HL := Lib.hid hid
  clear h hid
  obtain ⟨ia, hia⟩ : ∃ ia, ia = (id.map byteV).toArray := ⟨_, rfl⟩
  have HIA := Lib.hid hia
  have HIS := Lib.hid (show ia.size = 32 by rw [hia]; simp [HL.out])
  rw [← hia]
  obtain ⟨w1, hw1⟩ : ∃ w1, w1 = w.alloc (.cells ia 54) := ⟨_, rfl⟩
  have HB1 := Lib.hid (show Below w.heap.size w w1 by rw [hw1]; exact Joins.below_alloc1 _ _)
  have HX1 := Lib.hid (show Bk w1 w.heap.size 54 ia by rw [hw1]; exact Bk.new _ _ _)
  have HZ1 := Lib.hid (show w1.heap.size = w.heap.size + 1 by rw [hw1]; simp)
  obtain ⟨zs, hzs⟩ : ∃ zs, zs = ((List.replicate 32 (0 : UInt8)).map byteV).toArray := ⟨_, rfl⟩
  have HZ := Lib.hid (show (Tryd.prog.info? 54).map (·.zero) = some (some (.agg zs)) by rw [hzs]; exact zero_hash0)
  have HZL := Lib.hid (show zs.size = 32 by rw [hzs]; simp)
  clear hia hzs
  go_enter Tryd.func22, Tryd.ntmps22
  go_upto_region 1 with (fail)
  rw [← hw1]
  clear hw1
  go_wp2_with fail
  go_loopw [9] (fun iv wr => ∃ k : Nat, iv = .int .i64 (k : Int) ∧ k ≤ l.length ∧ Hid ((l.take k).any (fun x => decide (x = id)) = false) ∧ Hid (Below w1.heap.size w1 wr)) (fun iv _ => l.length - (intOf iv).toNat)
  case atStart => exact ⟨0, rfl, Nat.zero_le _, Lib.hid (by simp), Lib.hid (Below.refl _ _)⟩
  case round =>
    obtain ⟨k, rfl, hk, hno, hb⟩ := hrel
    have HBR := Lib.hid (HB1.out.trans (hb.out.mono HB1.out.size))
    by_cases hlt : k < l.length
    · obtain ⟨b, off, rfl, hbB, hr, hok⟩ := HashesAt.range (At.below HI.out (HBR.out.mono hB)) hlt
      have i1 : (0 : Int) ≤ (k : Int) := by omega
      have i2 : (k : Int) < (l.length : Int) := by omega
      have HNX := Lib.hid (fun h => any_snoc hlt (fun x : List UInt8 => decide (x = id)) hno.out h)
      have HYE := Lib.hid (fun (h : decide (l[k] = id) = true) => (List.any_eq_true.2 ⟨l[k], List.getElem_mem hlt, h⟩ : l.any (fun x => decide (x = id)) = true))
      have HEQ0 := Lib.hid (fun W => run_eq_hash W l[k] id hok HL.out)
      have HK1 := Lib.hid (show k + 1 ≤ l.length from hlt)
      generalize l[k] = x at *
      have HR := Lib.hid hr
      have L1 := Lib.hid (show (x.map byteV).length = 32 by rw [List.length_map]; exact hok)
      have HONE := Lib.hid (oneCell_bytes x)
      have hxb : wr.heap.size < (wr.alloc (.cells (x.map byteV).toArray 54)).heap.size := by simp
      obtain ⟨wx, hwx⟩ : ∃ wx, wx = wr.alloc (.cells (x.map byteV).toArray 54) := ⟨_, rfl⟩
      have HKX := Lib.hid (show Bk wx wr.heap.size 54 (x.map byteV).toArray by rw [hwx]; exact Bk.new _ _ _)
      have HBX := Lib.hid (show Below w1.heap.size w1 wx by rw [hwx]; exact hb.out.alloc hb.out.size _)
      have HAX := Lib.hid (HX1.out.below HBX.out (by rw [HZ1.out]; omega))
      have HEQ : ∀ W, (binOp .eql 54 (.agg (x.map byteV).toArray) (.agg ia)).run Tryd.prog W = .ok (.bool (decide (x = id))) W := fun W => by rw [HIA.out]; exact HEQ0.out W
      generalize x.map byteV = xs at *
      generalize hd : decide (x = id) = d at *
      clear hr hok hxb
      go_upto_region 4 with (refine wpList_elem rfl rfl rfl 54 (.tmp 11) (.tmp 6) (.tmp 12) rfl rfl rfl b (off + k * 32) (by rfl) xs _ HR.out Tryd.underlying54 rfl (by rw [L1.out]; exact size_hash0) zs HZ.out (by rw [HZL.out, L1.out]) HONE.out (by rfl) (by rfl) ?_)
      rw [← hwx]
      clear hwx
      have HBX2 := Lib.hid (HB1.out.trans (HBX.out.mono HB1.out.size))
      cases d with
      | true =>
        have HY := Lib.hid (HYE.out rfl)
        go_wp2_with (first
          | (refine wpList_load_row rfl 54 (.tmp 6) rfl wr.heap.size (by rfl) 54 xs.toArray (0, 0) _ HKX.out Tryd.underlying54 rfl (by rw [List.size_toArray, L1.out]; exact size_hash0) ?_)
          | (refine wpList_load_row rfl 54 (.tmp 3) rfl w.heap.size (by rfl) 54 ia (0, 0) _ HAX.out Tryd.underlying54 rfl (by rw [HIS.out]; exact size_hash0) ?_))
        go_ret
        exact ⟨ret_bool HY.out.symm, HBX2.out⟩
      | false =>
        have HN := Lib.hid (HNX.out rfl)
        go_wp2_with (first
          | (refine wpList_load_row rfl 54 (.tmp 6) rfl wr.heap.size (by rfl) 54 xs.toArray (0, 0) _ HKX.out Tryd.underlying54 rfl (by rw [List.size_toArray, L1.out]; exact size_hash0) ?_)
          | (refine wpList_load_row rfl 54 (.tmp 3) rfl w.heap.size (by rfl) 54 ia (0, 0) _ HAX.out Tryd.underlying54 rfl (by rw [HIS.out]; exact size_hash0) ?_))
        go_roundw
        case rel => exact ⟨k + 1, by go_num, HK1.out, HN, HBX⟩
        case measure => have := HK1.out; simp [intOf]; omega
    · have hkl : k = l.length := by omega
      have HF := Lib.hid (show l.any (fun x => decide (x = id)) = false by have := hno.out; rwa [hkl, List.take_of_length_le (Nat.le_refl _)] at this)
      go_wp2_with fail
      go_ret
      exact ⟨ret_bool HF.out.symm, HBR.out⟩
end Go.Proofs.YtacbibflhdmcoaaDoor.O14
/- The document's SameIds. -/
namespace Go.Proofs.YtacbibflhdmcoaaDoor.O14
open Go.RowKit Go.Deep T7
set_option linter.unusedVariables false
set_option linter.unusedSimpArgs false
set_option maxRecDepth 100000
set_option maxHeartbeats 2000000
attribute [local go_sem ↓] Go.wp_at_zero Go.wp_at_succ

theorem wpQuiet_ne_hash {ops : Array Oper} {C : World → Prop} {a : Go.Act} {o : Oper} {rest : List Oper} (hgd : o.guard = none) (x y : Operand) (b : TypeId) (ho : o.op = .binOp .neq 54 x y b)
    (p q : List UInt8) (hp : p.length = 32) (hq : q.length = 32) (hx : a.eval x = .agg (p.map byteV).toArray) (hy : a.eval y = .agg (q.map byteV).toArray) (r : Bool) (hr : (!decide (p = q)) = r)
    {Q' : Go.Act → Prop} (h : wpQuiet Tryd.prog ops C Q' rest (a.put o.dst (.bool r))) : wpQuiet Tryd.prog ops C Q' (o :: rest) a :=
  wpQuiet_step fun K hK => by
    rw [if_pos (by simp [Region.wanted, hgd])]
    refine ⟨.bool r, fun w hw => ?_, hK _ h⟩
    subst hr
    unfold Oper.quietAt execOp
    simp only [ho, hx, hy, Sem.run_bind, run_eqGuard_agg w .neq 54 x y _ _ guard_hash, Result.andThen_ok, run_ne_hash w p q hp hq, Sem.run_pure]
    exact ⟨rfl, rfl⟩
theorem sameids_any (l m : List (List UInt8)) (A A' : Option Addr) (c c' B B' : Nat) (w : World) (h : HashesAt w B A l) (hB : B ≤ w.heap.size) (h' : HashesAt w B' A' m) (hB' : B' ≤ w.heap.size) (hl : l.length ≤ 1000000) (hm : m.length ≤ 1000000) :
    Calls Tryd.prog 17 #[.slice A l.length c, .slice A' m.length c'] w fun e w' => e = .returned (.bool (decide (l = m))) ∧ Below w.heap.size w w' := by
  have HI := Lib.hid h
  have HJ := Lib.hid h'
  clear h h'
  by_cases hn : l.length = m.length
  case neg =>
    have hX := Lib.hid (show decide (l = m) = false by rw [decide_eq_false_iff_not]; exact fun e => hn (by rw [e]))
    have hn' : ¬ (l.length : Int) = (m.length : Int) := by omega
    clear hn
    go_enter Tryd.func17, Tryd.ntmps17
    go_wp2_with fail
    go_ret
    exact ⟨ret_bool hX.out.symm, Below.refl _ _⟩
  have HN := Lib.hid hn
  rw [← hn]
  have HEX := Lib.hid (show ∀ k, (hk : k < l.length) → (hk2 : k < m.length) → l[k] ≠ m[k] → decide (l = m) = false from fun k hk hk2 hne => by
    rw [decide_eq_false_iff_not]
    intro e
    subst e
    exact hne rfl)
  have HEQ := Lib.hid (show l.take l.length = m.take l.length → decide (l = m) = true from fun e => by
    rw [List.take_of_length_le (Nat.le_refl _), hn, List.take_of_length_le (Nat.le_refl _)] at e
    exact decide_eq_true e)
  have hml : ∀ k, k < l.length → k < m.length := fun k hk => by omega
  have HML := Lib.hid hml
  clear hn
  go_enter Tryd.func17, Tryd.ntmps17
  go_wp2_with fail
  go_loopw [5, 13] (fun _ iv wr => ∃ k : Nat, iv = .int .i64 (k : Int) ∧ k ≤ l.length ∧ Hid (l.take k = m.take k) ∧ Hid (Below w.heap.size w wr)) (fun _ iv _ => l.length - (intOf iv).toNat)
  case atStart => exact ⟨0, rfl, Nat.zero_le _, Lib.hid (by simp), Lib.hid (Below.refl _ _)⟩
  case round =>
    obtain ⟨k, rfl, hk, hs, hb⟩ := hrel
    by_cases hlt : k < l.length
    · obtain ⟨b, off, rfl, hbB, hr, hok⟩ := HashesAt.range (At.below HI.out (hb.out.mono hB)) hlt
      obtain ⟨b', off', rfl, hbB', hr', hok'⟩ := HashesAt.range (At.below HJ.out (hb.out.mono hB')) (HML.out k hlt)
      have i1 : (0 : Int) ≤ (k : Int) := by omega
      have i2 : (k : Int) < (l.length : Int) := by omega
      have HR := Lib.hid hr
      have HR2 := Lib.hid hr'
      have HL := Lib.hid hok
      have HM := Lib.hid hok'
      have L1 := Lib.hid (show (l[k].map byteV).length = 32 by rw [List.length_map]; exact hok)
      have L2 := Lib.hid (show ((m[k]'(HML.out k hlt)).map byteV).length = 32 by rw [List.length_map]; exact hok')
      have HNE := Lib.hid (HEX.out k hlt (HML.out k hlt))
      have HYE := Lib.hid (show l[k] = m[k]'(HML.out k hlt) → l.take (k + 1) = m.take (k + 1) from fun e => by
        rw [List.take_succ_eq_append_getElem hlt, List.take_succ_eq_append_getElem (HML.out k hlt), hs.out, e])
      have HK1 := Lib.hid (show k + 1 ≤ l.length from hlt)
      generalize l[k] = x at *
      generalize m[k]'(HML.out k hlt) = y at *
      clear hr hr' hok hok'
      go_upto_region 6 with (fail)
      cases hpn : (!decide (x = y)) with
      | true =>
        have hY := Lib.hid (HNE.out (by simpa using hpn))
        refine wp_region_quiet_lit (by kernel_rfl) (by kernel_rfl) ?_
        iterate 3 (go_big_quiet_step (fail))
        (refine wpQuiet_load_mid rfl 54 (.tmp 18) rfl b (off + k * 32) (by rfl) (x.map byteV) _ (fun w' ⟨n, e⟩ => by subst e; exact HR.out) Tryd.underlying54 rfl (by rw [L1.out]; exact size_hash0) ?_; go_frame)
        iterate 3 (go_big_quiet_step (fail))
        (refine wpQuiet_load_mid rfl 54 (.tmp 22) rfl b' (off' + k * 32) (by rfl) (y.map byteV) _ (fun w' ⟨n, e⟩ => by subst e; exact HR2.out) Tryd.underlying54 rfl (by rw [L2.out]; exact size_hash0) ?_; go_frame)
        (refine wpQuiet_ne_hash rfl (.tmp 19) (.tmp 23) _ rfl x y HL.out HM.out (by rfl) (by rfl) true hpn ?_; go_frame)
        refine wpQuiet_nil ?_
        intro _ hw'
        obtain ⟨nq, hw''⟩ := hw'
        subst hw''
        have HEND := Lib.hid (below_drewN hb.out nq)
        go_wp2_with fail
        go_ret
        exact ⟨ret_bool hY.out.symm, HEND.out⟩
      | false =>
        have hY := Lib.hid (HYE.out (by simpa using hpn))
        refine wp_region_quiet_lit (by kernel_rfl) (by kernel_rfl) ?_
        iterate 3 (go_big_quiet_step (fail))
        (refine wpQuiet_load_mid rfl 54 (.tmp 18) rfl b (off + k * 32) (by rfl) (x.map byteV) _ (fun w' ⟨n, e⟩ => by subst e; exact HR.out) Tryd.underlying54 rfl (by rw [L1.out]; exact size_hash0) ?_; go_frame)
        iterate 3 (go_big_quiet_step (fail))
        (refine wpQuiet_load_mid rfl 54 (.tmp 22) rfl b' (off' + k * 32) (by rfl) (y.map byteV) _ (fun w' ⟨n, e⟩ => by subst e; exact HR2.out) Tryd.underlying54 rfl (by rw [L2.out]; exact size_hash0) ?_; go_frame)
        (refine wpQuiet_ne_hash rfl (.tmp 19) (.tmp 23) _ rfl x y HL.out HM.out (by rfl) (by rfl) false hpn ?_; go_frame)
        refine wpQuiet_nil ?_
        intro _ hw'
        obtain ⟨nq, hw''⟩ := hw'
        subst hw''
        have HEND := Lib.hid (below_drewN hb.out nq)
        go_wp2_with fail
        go_roundw
        case rel => exact ⟨k + 1, by go_num, HK1.out, hY, HEND⟩
        case measure => have := HK1.out; simp [intOf]; omega
    · have hkl : k = l.length := by omega
      rw [hkl] at hs
      have hX := Lib.hid (HEQ.out hs.out)
      go_wp2_with fail
      go_ret
      exact ⟨ret_bool hX.out.symm, hb.out⟩
end Go.Proofs.YtacbibflhdmcoaaDoor.O14
/- The law's heavy: transactions that are not looked at. -/
namespace Go.Proofs.YtacbibflhdmcoaaDoor.O14
open Go.RowKit Go.Deep T7
set_option linter.unusedVariables false
set_option linter.unusedSimpArgs false
set_option maxRecDepth 100000
attribute [local go_sem ↓] Go.wp_at_zero Go.wp_at_succ

def heavyB (t : Txs.Tx) : Bool := decide (30 < t.ins.length) || (decide (30 < t.outs.length) || t.ins.any (fun x => decide (100 < x.key.length)))
theorem any_take9 {α : Type} {l : List α} {k : Nat} (hk : k < l.length) (p : α → Bool) (h : (l.take k).any p = false) (hp : p l[k] = false) : (l.take (k + 1)).any p = false := by
  rw [List.take_succ_eq_append_getElem hk, List.any_append, h]; simp [hp]
set_option maxHeartbeats 2000000 in
theorem heavy_any (t : Txs.Tx) (A A' : Option Addr) (c c' B : Nat) (w : World) (h : TxAt w B t A c A' c') (hB : B ≤ w.heap.size) :
    Calls Tryd.prog 24 #[txV t A c A' c'] w fun e w' => e = .returned (.bool (heavyB t)) ∧ Below w.heap.size w w' := by
  have hmi := Nat.le_trans h.ic h.im
  have hmo := Nat.le_trans h.oc h.om
  unfold maxLen at hmi hmo
  have HI := Lib.hid h.ins
  unfold txV
  generalize hv : t.version = ver at *
  clear hv h
  obtain ⟨w1, hw1⟩ : ∃ w1, w1 = w.alloc (.cells #[.int .u32 (ver : Int), .slice A t.ins.length c, .slice A' t.outs.length c'] 35) := ⟨_, rfl⟩
  have HK := Lib.hid (show Bk w1 w.heap.size 35 #[.int .u32 (ver : Int), .slice A t.ins.length c, .slice A' t.outs.length c'] by rw [hw1]; exact Bk.new _ _ _)
  have HZ := Lib.hid (show w1.heap.size = w.heap.size + 1 by rw [hw1]; simp)
  have HW := Lib.hid (show Below w.heap.size w w1 by rw [hw1]; exact Joins.below_alloc1 _ _)
  have HI1 := Lib.hid (show InsAt w1 B A t.ins from HI.out.below (HW.out.mono hB))
  have HG := Lib.hid (show heavyB t = _ from rfl)
  by_cases h1 : 30 < t.ins.length
  · have h1' : (30 : Int) < (t.ins.length : Int) := by omega
    have HX := Lib.hid (show heavyB t = true by unfold heavyB; simp [h1])
    go_enter Tryd.func24, Tryd.ntmps24
    go_wp2_with fail
    go_ret
    rw [← hw1]
    exact ⟨ret_bool HX.out.symm, HW.out⟩
  by_cases h2 : 30 < t.outs.length
  · have h1' : ¬ (30 : Int) < (t.ins.length : Int) := by omega
    have h2' : (30 : Int) < (t.outs.length : Int) := by omega
    have HX := Lib.hid (show heavyB t = true by unfold heavyB; simp [h2])
    go_enter Tryd.func24, Tryd.ntmps24
    go_wp2_with fail
    go_ret
    rw [← hw1]
    exact ⟨ret_bool HX.out.symm, HW.out⟩
  have h1' : ¬ (30 : Int) < (t.ins.length : Int) := by omega
  have h2' : ¬ (30 : Int) < (t.outs.length : Int) := by omega
  have HX := Lib.hid (show heavyB t = t.ins.any (fun x => decide (100 < x.key.length)) by unfold heavyB; rw [decide_eq_false h1, decide_eq_false h2]; rfl)
  clear h1 h2
  have k1 : w1.cell? ⟨w.heap.size, 1, none⟩ = some (.slice A t.ins.length c) := (HK.out.cell 1).trans rfl
  go_enter Tryd.func24, Tryd.ntmps24
  go_wp2_with fail
  rw [← hw1]
  clear hw1
  go_loopw [18] (fun i wr => ∃ k : Nat, k ≤ t.ins.length ∧ i = .int .i64 (k : Int) ∧ Hid ((t.ins.take k).any (fun x => decide (100 < x.key.length)) = false) ∧ Hid (Below w1.heap.size w1 wr)) (fun i _ => t.ins.length - (intOf i).toNat)
  case atStart => exact ⟨0, Nat.zero_le _, rfl, Lib.hid rfl, Lib.hid (Below.refl _ _)⟩
  case round =>
    obtain ⟨k, hk, rfl, ha, hb⟩ := hrel
    by_cases hlt : k < t.ins.length
    · obtain ⟨b, off, Ak, ck, rfl, _, hr, hok, hkc, hkm, _⟩ := (HI1.out.below (hb.out.mono (by rw [HZ.out]; omega))).range hlt
      have HN := Lib.hid (fun hp => any_take9 hlt (fun x => decide (100 < x.key.length)) ha.out hp)
      have HXX : Hid (100 < t.ins[k].key.length → heavyB t = true) := Lib.hid fun hp => by
        rw [HX.out, List.any_eq_true]; exact ⟨t.ins[k], List.getElem_mem hlt, by simpa using hp⟩
      have HR := Lib.hid hr
      have HOK := Lib.hid hok
      clear hr hok
      generalize t.ins[k] = x at *
      have HL := Lib.hid (inCells_len HOK.out (.slice Ak x.key.length ck))
      have HKY := Lib.hid (in_key (Bk.new _ 91 (inCells x (.slice Ak x.key.length ck)).toArray : Bk (wr.alloc (.cells (inCells x (.slice Ak x.key.length ck)).toArray 91)) wr.heap.size _ _) HOK.out)
      have HONE := Lib.hid (inCells_one x Ak x.key.length ck)
      have hkl : x.key.length ≤ 9223372036854775807 := by unfold maxLen at hkm; omega
      obtain ⟨ky, hky⟩ : ∃ ky, ky = x.key.length := ⟨_, rfl⟩
      rw [← hky] at HR HL HKY HONE hkl HN HXX hkc
      generalize hcs : inCells x (.slice Ak ky ck) = cs at *
      have HZI := zero_in
      have HZL := Lib.hid zeroIn_len
      generalize (inCells ⟨List.replicate 32 0, 0, []⟩ (.slice none 0 0)).toArray = zs at *
      have HZI := Lib.hid HZI
      clear hky hcs
      go_wp2_with (refine wpList_elem rfl rfl rfl 91 (.tmp 20) (.tmp 4) (.tmp 21) rfl rfl rfl b (off + k * 34) (by rfl) cs _ HR.out Tryd.underlying91 rfl (by rw [HL.out]; exact size_in) zs HZI.out (by rw [HZL.out, HL.out]) HONE.out (by rfl) (by rfl) ?_; have hcell := HKY.out)
      · have h64 : (100 : Int) < (ky : Int) := by assumption
        go_ret
        exact ⟨ret_bool (HXX.out (by omega)).symm, HW.out.trans ((hb.out.alloc hb.out.size _).mono (by rw [HZ.out]; omega))⟩
      · have h64 : (ky : Int) ≤ 100 := by assumption
        go_roundw
        case rel => exact ⟨k + 1, by omega, by go_num, Lib.hid (HN.out (by rw [decide_eq_false_iff_not]; omega)), Lib.hid (hb.out.alloc hb.out.size _)⟩
        case measure => simp [intOf]; omega
    · have hkl : k = t.ins.length := by omega
      have HA := Lib.hid (show t.ins.any (fun x => decide (100 < x.key.length)) = false by have := ha.out; rwa [hkl, List.take_of_length_le (Nat.le_refl _)] at this)
      have HB := Lib.hid (HW.out.trans (hb.out.mono (by rw [HZ.out]; omega)))
      clear hkl ha k1 hb
      go_wp2_with fail
      go_ret
      exact ⟨ret_bool (by rw [HX.out, HA.out]), HB.out⟩
end Go.Proofs.YtacbibflhdmcoaaDoor.O14
/- Acts in plain Lean and in memory; great. -/
namespace Go.Proofs.YtacbibflhdmcoaaDoor.O14
open Go.RowKit Go.Deep T7 Go.ChangeShapes Go.WideShapes Go.ChangeAt
set_option linter.unusedVariables false
set_option linter.unusedSimpArgs false
set_option maxRecDepth 100000
attribute [local go_sem ↓] Go.wp_at_zero Go.wp_at_succ

structure Act where
  kind : Int
  src : Int
  tx : Txs.Tx
  parents : List (List UInt8)
  now : Nat
def actCells (a : Act) (i o p : Value) : List Value := [.int .i64 a.kind, .int .i64 a.src, .int .u32 (a.tx.version : Int), i, o, p, .int .u64 (a.now : Int)]
/-- an act, its cells -/
def IsAct (w : World) (B : Nat) (vs : List Value) (a : Act) : Prop :=
  a.now < 18446744073709551616 ∧ ∃ A c A' c' Ap cp, vs = actCells a (.slice A a.tx.ins.length c) (.slice A' a.tx.outs.length c') (.slice Ap a.parents.length cp) ∧ TxAt w B a.tx A c A' c' ∧ a.parents.length ≤ cp ∧ cp ≤ maxLen ∧ HashesAt w B Ap a.parents
abbrev ActsAt (w : World) (B : Nat) (A : Option Addr) (l : List Act) : Prop := At 7 (IsAct w B) w B A l
theorem IsAct.below {w w' : World} {B : Nat} {vs : List Value} {a : Act} (h : IsAct w B vs a) (hb : Below B w w') : IsAct w' B vs a := by
  obtain ⟨h0, A, c, A', c', Ap, cp, h1, h2, h3, h4, h5⟩ := h
  exact ⟨h0, A, c, A', c', Ap, cp, h1, h2.below hb, h3, h4, At.below h5 hb⟩
theorem ActsAt.below {w w' : World} {B : Nat} {A : Option Addr} {l : List Act} (h : ActsAt w B A l) (hb : Below B w w') : ActsAt w' B A l := At.imp (At.below h hb) fun _ _ h => h.below hb
theorem ActsAt.range {w : World} {B : Nat} {A : Option Addr} {l : List Act} (h : ActsAt w B A l) {i : Nat} (hi : i < l.length) :
    ∃ b off Ai ci Ao co Ap cp, A = some ⟨b, off, none⟩ ∧ b < B ∧ w.rangeAt b (off + i * 7) (actCells l[i] (.slice Ai l[i].tx.ins.length ci) (.slice Ao l[i].tx.outs.length co) (.slice Ap l[i].parents.length cp)) ∧ l[i].now < 18446744073709551616 ∧ TxAt w B l[i].tx Ai ci Ao co ∧ l[i].parents.length ≤ cp ∧ cp ≤ maxLen ∧ HashesAt w B Ap l[i].parents := by
  obtain ⟨b, off, vs, hA, hb, ⟨hk, A1, c1, A2, c2, Ap, cp, hvs, h1, h2, h3, h4⟩, hc⟩ := h i hi
  refine ⟨b, off, A1, c1, A2, c2, Ap, cp, hA, hb, fun j v hv => ?_, hk, h1, h2, h3, h4⟩
  rw [← hvs] at hv
  obtain ⟨hj, rfl⟩ := List.getElem?_eq_some_iff.1 hv
  exact hc j hj
section
variable {H : Type} {enc : TypeId × Value → H} {W : World} {base : Nat} {sp : Nat → Bool} {held : Bool}
theorem trod_struct5 {P : Program} {t : TypeId} {f0 f1 f2 f3 f4 : Field} {fuel : Nat} {cs : List Value} {x : DataW H × List MemPlace} (ht : P.underlying t = some (.struct #[f0, f1, f2, f3, f4])) (h : DataW.trod enc P W base sp held fuel t cs = some x) :
    ∃ y0 y1 y2 y3 y4 n, DataW.trod enc P W base sp held n f0.type ((cs.drop f0.offset).take (P.cellsOf f0.type)) = some y0 ∧ DataW.trod enc P W base sp held n f1.type ((cs.drop f1.offset).take (P.cellsOf f1.type)) = some y1 ∧
      DataW.trod enc P W base sp held n f2.type ((cs.drop f2.offset).take (P.cellsOf f2.type)) = some y2 ∧ DataW.trod enc P W base sp held n f3.type ((cs.drop f3.offset).take (P.cellsOf f3.type)) = some y3 ∧ DataW.trod enc P W base sp held n f4.type ((cs.drop f4.offset).take (P.cellsOf f4.type)) = some y4 := by
  obtain ⟨xs, n, _, _, _, hx, hi⟩ := DataW.trod_struct ht h
  match xs, hx with
  | [y0, y1, y2, y3, y4], _ => exact ⟨y0, y1, y2, y3, y4, n, hi 0 f0 rfl, hi 1 f1 rfl, hi 2 f2 rfl, hi 3 f3 rfl, hi 4 f4 rfl⟩
theorem isHash_open (n : Nat) (cs : List Value) (x : DataW H × List MemPlace) (hl : cs.length = 32) (h : DataW.trod enc Tryd.prog W base sp held n 54 cs = some x) : ∃ y : List UInt8, IsHash cs y := by
  obtain ⟨l, h1, h2⟩ := hash_open h
  exact ⟨l, h2, h1⟩
theorem isAct_open (n : Nat) (cs : List Value) (x : DataW H × List MemPlace) (hl : cs.length = 7)
    (h : DataW.trod enc Tryd.prog W 0 (fun _ => true) true n 39 cs = some x) : ∃ y : Act, IsAct W W.heap.size cs y := by
  obtain ⟨y0, y1, y2, y3, y4, m, h0, h1, h2, h3, h4⟩ := trod_struct5 Tryd.underlying39 h
  have c3 : Tryd.prog.cellsOf 3 = 1 := by kernel_rfl
  have ctx : Tryd.prog.cellsOf 35 = 3 := by kernel_rfl
  have chs : Tryd.prog.cellsOf 36 = 1 := by kernel_rfl
  have c64 : Tryd.prog.cellsOf 37 = 1 := by kernel_rfl
  simp only [c3, ctx, chs, c64] at h0 h1 h2 h3 h4
  match cs, hl with
  | [v0, v1, v2, v3, v4, v5, v6], _ =>
    simp only [List.drop_zero, List.drop_succ_cons, List.take_succ_cons, List.take_zero] at h0 h1 h2 h3 h4
    obtain ⟨z0, z1, z2, m', g0, g1, g2⟩ : ∃ z0 z1 z2 m', DataW.trod enc Tryd.prog W 0 (fun _ => true) true m' 31 [v2] = some z0 ∧ DataW.trod enc Tryd.prog W 0 (fun _ => true) true m' 32 [v3] = some z1 ∧ DataW.trod enc Tryd.prog W 0 (fun _ => true) true m' 33 [v4] = some z2 := by
      have cu : Tryd.prog.cellsOf 31 = 1 := by kernel_rfl
      have ci : Tryd.prog.cellsOf 32 = 1 := by kernel_rfl
      have co : Tryd.prog.cellsOf 33 = 1 := by kernel_rfl
      obtain ⟨z0, z1, z2, m', _, _, g0, g1, g2⟩ := trod_struct3 Tryd.underlying35 h2
      simp only [cu, ci, co, List.drop_zero, List.drop_succ_cons, List.take_succ_cons, List.take_zero] at g0 g1 g2
      exact ⟨z0, z1, z2, m', g0, g1, g2⟩
    obtain ⟨k0, e0, _, w0⟩ := DataW.trod_int Tryd.underlying3 h0
    obtain ⟨k1, e1, _, w1⟩ := DataW.trod_int Tryd.underlying3 h1
    obtain ⟨k2, e2, _, w2⟩ := DataW.trod_int Tryd.underlying31 g0
    obtain ⟨k6, e6, _, w6⟩ := DataW.trod_int Tryd.underlying37 h4
    obtain ⟨a2, b2⟩ := wf_u32 w2
    obtain ⟨a6, b6⟩ := wf_u64 w6
    injection e0 with e0 _
    injection e1 with e1 _
    injection e2 with e2 _
    injection e6 with e6 _
    subst e0 e1 e2 e6
    obtain ⟨A, len, c, li, rfl, hl, hc, hm, hat⟩ := open_at_of (IsIn W W.heap.size) 34 (by omega) Tryd.underlying32 (by kernel_rfl) g1 isIn_open
    subst hl
    obtain ⟨A', len', c', lo, rfl, hl', hc', hm', hat'⟩ := open_at_of IsOut 33 (by omega) Tryd.underlying33 (by kernel_rfl) g2 (fun n cs x => isOut_open n cs x)
    subst hl'
    obtain ⟨Ap, lenp, cp, lp, rfl, hlp, hcp, hmp, hatp⟩ := open_at_of IsHash 32 (by omega) Tryd.underlying36 (by kernel_rfl) h3 (fun n cs x => isHash_open n cs x)
    subst hlp
    refine ⟨⟨k0, k1, ⟨k2.toNat, li, lo⟩, lp, k6.toNat⟩, by show k6.toNat < _; omega, A, c, A', c', Ap, cp, ?_, ⟨by show k2.toNat < _; omega, hc, hm, hc', hm', hat, hat'⟩, hcp, hmp, hatp⟩
    unfold actCells
    show (_ : List Value) = [_, _, Value.int .u32 ((k2.toNat : Nat) : Int), _, _, _, Value.int .u64 ((k6.toNat : Nat) : Int)]
    rw [show ((k2.toNat : Nat) : Int) = k2 by omega, show ((k6.toNat : Nat) : Int) = k6 by omega]
end
theorem size_act : (Tryd.prog.info? 39).map (·.size) = some 7 := by kernel_rfl
theorem zero_act : (Tryd.prog.info? 39).map (·.zero) = some (some (.agg #[.int .i64 0, .int .i64 0, .int .u32 0, .slice none 0 0, .slice none 0 0, .slice none 0 0, .int .u64 0])) := by kernel_rfl
theorem act_one (a : Act) (A1 A2 A3 : Option Addr) (n1 c1 n2 c2 n3 c3 : Nat) : ∀ u ∈ actCells a (.slice A1 n1 c1) (.slice A2 n2 c2) (.slice A3 n3 c3), u.oneCell' = true := by
  intro u hu
  unfold actCells at hu
  simp only [List.mem_cons, List.not_mem_nil, or_false] at hu
  rcases hu with rfl | rfl | rfl | rfl | rfl | rfl | rfl <;> rfl
theorem act_cells {w : World} {g : Nat} {a : Act} {i o p : Value} (h : Bk w g 39 (actCells a i o p).toArray) : w.cell? ⟨g, 0, none⟩ = some (.int .i64 a.kind) ∧ w.cell? ⟨g, 1, none⟩ = some (.int .i64 a.src) ∧ w.cell? ⟨g, 2, none⟩ = some (.int .u32 (a.tx.version : Int)) ∧
    w.cell? ⟨g, 3, none⟩ = some i ∧ w.cell? ⟨g, 4, none⟩ = some o ∧ w.cell? ⟨g, 5, none⟩ = some p ∧ w.cell? ⟨g, 6, none⟩ = some (.int .u64 (a.now : Int)) :=
  ⟨(h.cell 0).trans rfl, (h.cell 1).trans rfl, (h.cell 2).trans rfl, (h.cell 3).trans rfl, (h.cell 4).trans rfl, (h.cell 5).trans rfl, (h.cell 6).trans rfl⟩
/-- acts more than are looked at -/
def greatB (l : List Act) : Bool := decide (80 < l.length) || l.any fun a => decide (50 < a.parents.length) || heavyB a.tx
set_option maxHeartbeats 2000000 in
theorem great_any (l : List Act) (A : Option Addr) (c B : Nat) (w : World) (h : ActsAt w B A l) (hB : B ≤ w.heap.size) (hc : l.length ≤ c) (hm : c ≤ maxLen) :
    Calls Tryd.prog 10 #[.slice A l.length c] w fun e w' => e = .returned (.bool (greatB l)) ∧ Below w.heap.size w w' := by
  have HI := Lib.hid h
  clear h
  unfold maxLen at hm
  by_cases h80 : 80 < l.length
  · have i80 : (80 : Int) < (l.length : Int) := by omega
    have HX := Lib.hid (show greatB l = true by unfold greatB; simp [h80])
    go_enter Tryd.func10, Tryd.ntmps10
    go_wp2_with fail
    go_ret
    exact ⟨ret_bool HX.out.symm, Below.refl _ _⟩
  have i80 : (l.length : Int) ≤ 80 := by omega
  have HX := Lib.hid (show greatB l = l.any (fun a => decide (50 < a.parents.length) || heavyB a.tx) by unfold greatB; rw [decide_eq_false h80]; rfl)
  have hZA := zero_act
  generalize (#[.int .i64 0, .int .i64 0, .int .u32 0, .slice none 0 0, .slice none 0 0, .slice none 0 0, .int .u64 0] : Array Value) = za at hZA
  have HZA := Lib.hid hZA
  have HZAL := Lib.hid (show za.size = 7 by
    have := zero_act
    rw [this] at hZA
    simp only [Option.some.injEq, Value.agg.injEq] at hZA
    rw [← hZA]; rfl)
  clear hZA h80
  go_enter Tryd.func10, Tryd.ntmps10
  go_wp2_with fail
  go_loopw [10] (fun iv wr => ∃ k : Nat, iv = .int .i64 (k : Int) ∧ k ≤ l.length ∧ Hid ((l.take k).any (fun a => decide (50 < a.parents.length) || heavyB a.tx) = false) ∧ Hid (Below w.heap.size w wr)) (fun iv _ => l.length - (intOf iv).toNat)
  case atStart => exact ⟨0, rfl, Nat.zero_le _, Lib.hid (by simp), Lib.hid (Below.refl _ _)⟩
  case round =>
    obtain ⟨k, rfl, hk, hno, hb⟩ := hrel
    by_cases hlt : k < l.length
    · obtain ⟨b, off, Ai, ci, Ao, co, Ap, cp, rfl, hbB, hr, hnow, htx, hcp, hmp, hat⟩ := ActsAt.range (ActsAt.below HI.out (hb.out.mono hB)) hlt
      have i1 : (0 : Int) ≤ (k : Int) := by omega
      have i2 : (k : Int) < (l.length : Int) := by omega
      have HNX := Lib.hid (fun h => any_take9 hlt (fun a : Act => decide (50 < a.parents.length) || heavyB a.tx) hno.out h)
      have HYE := Lib.hid (fun (h : (decide (50 < l[k].parents.length) || heavyB l[k].tx) = true) => (List.any_eq_true.2 ⟨l[k], List.getElem_mem hlt, h⟩ : l.any (fun a => decide (50 < a.parents.length) || heavyB a.tx) = true))
      have HK1 := Lib.hid (show k + 1 ≤ l.length from hlt)
      generalize l[k] = x at *
      obtain ⟨cs, hcs⟩ : ∃ cs, cs = actCells x (.slice Ai x.tx.ins.length ci) (.slice Ao x.tx.outs.length co) (.slice Ap x.parents.length cp) := ⟨_, rfl⟩
      have HL := Lib.hid (show cs.length = 7 by rw [hcs]; rfl)
      have HONE := Lib.hid (show ∀ u ∈ cs, u.oneCell' = true by rw [hcs]; exact act_one _ _ _ _ _ _ _ _ _ _)
      rw [← hcs] at hr
      have HR := Lib.hid hr
      obtain ⟨wx, hwx⟩ : ∃ wx, wx = wr.alloc (.cells cs.toArray 39) := ⟨_, rfl⟩
      have hbx : Below wr.heap.size wr wx := by rw [hwx]; exact Joins.below_alloc1 _ _
      have HBX := Lib.hid (hb.out.trans (hbx.mono hb.out.size))
      have HHV := Lib.hid (heavy_any x.tx Ai Ao ci co B wx (htx.below (HBX.out.mono hB |> fun h => (hbx.mono (Nat.le_trans hB hb.out.size)))) (Nat.le_trans hB HBX.out.size))
      unfold txV at HHV
      obtain ⟨_, _, k2, k3, k4, k5, _⟩ := act_cells (w := wx) (g := wr.heap.size) (a := x) (i := .slice Ai x.tx.ins.length ci) (o := .slice Ao x.tx.outs.length co) (p := .slice Ap x.parents.length cp) (by rw [hwx, ← hcs]; exact Bk.new _ _ _)
      have hpl : x.parents.length ≤ 9223372036854775807 := by unfold maxLen at hmp; omega
      generalize x.tx.version = ver at *
      generalize hd2 : heavyB x.tx = d2 at *
      generalize x.tx.ins.length = n1 at *
      generalize x.tx.outs.length = n2 at *
      generalize x.parents.length = n3 at *
      clear hr hcs hbx htx hat hd2
      go_upto_region 6 with (refine wpList_elem rfl rfl rfl 39 (.tmp 12) (.tmp 4) (.tmp 13) rfl rfl rfl b (off + k * 7) (by rfl) cs _ HR.out Tryd.underlying39 rfl (by rw [HL.out]; exact size_act) za HZA.out (by rw [HZAL.out, HL.out]) HONE.out (by rfl) (by rfl) ?_)
      rw [← hwx]
      clear hwx
      by_cases h50 : 50 < n3
      · have i50 : (50 : Int) < (n3 : Int) := by omega
        have HY := Lib.hid (HYE.out (by simp [h50]))
        go_wp2_with fail
        go_ret
        exact ⟨ret_bool (by rw [HX.out, HY.out]), HBX.out⟩
      · have i50 : ¬ (50 : Int) < (n3 : Int) := by omega
        cases d2 with
        | true =>
          have HY := Lib.hid (HYE.out (by simp))
          go_wp2_with fail
          refine HHV.out.mono ?_
          rintro e w2 ⟨rfl, hb2⟩
          have HB2 := Lib.hid (HBX.out.trans (hb2.mono HBX.out.size))
          clear hb2
          go_wp2_with fail
          go_ret
          exact ⟨ret_bool (by rw [HX.out, HY.out]), HB2.out⟩
        | false =>
          have HN := Lib.hid (HNX.out (by simp [h50]))
          go_wp2_with fail
          refine HHV.out.mono ?_
          rintro e w2 ⟨rfl, hb2⟩
          have HB2 := Lib.hid (HBX.out.trans (hb2.mono HBX.out.size))
          clear hb2
          go_wp2_with fail
          go_roundw
          case rel => exact ⟨k + 1, by go_num, HK1.out, HN, HB2⟩
          case measure => have := HK1.out; simp [intOf]; omega
    · have hkl : k = l.length := by omega
      have HF := Lib.hid (show l.any (fun a => decide (50 < a.parents.length) || heavyB a.tx) = false by have := hno.out; rwa [hkl, List.take_of_length_le (Nat.le_refl _)] at this)
      go_wp2_with fail
      go_ret
      exact ⟨ret_bool (by rw [HX.out, HF.out]), hb.out⟩
end Go.Proofs.YtacbibflhdmcoaaDoor.O14
