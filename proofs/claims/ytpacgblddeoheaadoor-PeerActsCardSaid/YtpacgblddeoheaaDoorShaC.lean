/- ShaC, merged: Sha3, ShaAdd. -/
import Derived.Test.YtpacgblddeoheaaDoorShaBlock
import Derived.Laws.CopyRow
import Derived.Laws.CopyOwn
import Derived.Laws.Tables
import Derived.Deep.MidRow
/- Sums of 256 bits, in plain Lean: bytes taken in piece by piece. -/
set_option linter.unusedVariables false
set_option linter.unusedSimpArgs false
namespace Go.Proofs.YtpacgblddeoheaaDoor.Sha
theorem blocks_append (s : St) (l t : List UInt8) (n : Nat) (h : 64 * n ≤ l.length) : blocks s (l ++ t) n = blocks s l n := by
  induction n with
  | zero => rfl
  | succ n ih =>
    rw [blocks, blocks, ih (by omega)]
    congr 1
    rw [List.drop_append, List.take_append]
    rw [show 64 - (l.drop (64 * n)).length = 0 by rw [List.length_drop]; omega]
    simp
/-- what is there of these bytes: the state of whole blocks, and the open block's bytes -/
structure Abs (m : List UInt8) (s : St) (o : List UInt8) : Prop where
  len : o.length = 64
  st : s = blocks first m (m.length / 64)
  op : o.take (m.length % 64) = m.drop (64 * (m.length / 64))
theorem Abs.nil : Abs [] first (List.replicate 64 0) := ⟨by simp, rfl, rfl⟩
def put (o t : List UInt8) (at_ : Nat) : List UInt8 := o.take at_ ++ t ++ o.drop (at_ + t.length)
theorem put_len {o t : List UInt8} {at_ : Nat} (h : at_ + t.length ≤ o.length) : (put o t at_).length = o.length := by
  simp [put]; omega
theorem Abs.part {m t : List UInt8} {s : St} {o : List UInt8} (h : Abs m s o) (ht : m.length % 64 + t.length < 64) : Abs (m ++ t) s (put o t (m.length % 64)) := by
  have hd : (m ++ t).length / 64 = m.length / 64 := by rw [List.length_append]; omega
  have hm : (m ++ t).length % 64 = m.length % 64 + t.length := by rw [List.length_append]; omega
  have hl : (o.take (m.length % 64)).length = m.length % 64 := by rw [List.length_take, h.len]; omega
  refine ⟨by rw [put_len (by rw [h.len]; omega), h.len], ?_, ?_⟩
  · rw [hd, blocks_append _ _ _ _ (by omega), h.st]
  · rw [hd, hm, put, List.take_left' (by rw [List.length_append, hl]), h.op, List.drop_append_of_le_length (by omega)]
theorem Abs.full {m t : List UInt8} {s : St} {o : List UInt8} (h : Abs m s o) (ht : m.length % 64 + t.length = 64) : Abs (m ++ t) (block s (put o t (m.length % 64))) (put o t (m.length % 64)) := by
  have hd : (m ++ t).length / 64 = m.length / 64 + 1 := by rw [List.length_append]; omega
  have hm : (m ++ t).length % 64 = 0 := by rw [List.length_append]; omega
  have hl : (o.take (m.length % 64)).length = m.length % 64 := by rw [List.length_take, h.len]; omega
  have hp : put o t (m.length % 64) = ((m ++ t).drop (64 * (m.length / 64))).take 64 := by
    rw [put, List.drop_of_length_le (by rw [h.len]; omega), List.append_nil, h.op, List.drop_append_of_le_length (by omega)]
    rw [List.take_of_length_le]
    rw [List.length_append, List.length_drop]; omega
  refine ⟨by rw [put_len (by rw [h.len]; omega), h.len], ?_, ?_⟩
  · rw [hd, blocks, blocks_append _ _ _ _ (by omega), ← h.st, hp]
  · rw [hm, hd, List.take_zero, List.drop_of_length_le (by rw [List.length_append]; omega)]
end Go.Proofs.YtpacgblddeoheaaDoor.Sha
/- Package sha: a hasher takes bytes. -/
namespace Go.Proofs.YtpacgblddeoheaaDoor
open Go.RowKit Go.Deep
set_option linter.unusedVariables false
set_option linter.unusedSimpArgs false
set_option maxRecDepth 100000
attribute [local go_sem ↓] Go.wp_at_zero Go.wp_at_succ

theorem Kp.setRow {S : Nat → Prop} {a w : World} (h : Kp S a w) {g : Nat} (hg : g < a.heap.size → S g) (cs : Array Value) : Kp S a (w.setRow g cs) :=
  ⟨h.os, h.tape, h.output, by simpa [World.setRow] using h.size, fun i hi hn => (setRow_other w g i cs (fun e => hn (by rw [e]; exact hg (e ▸ hi)))).trans (h.block i hi hn)⟩
/-- a hasher's cells -/
def hashArr (s : Sha.St) (o : List UInt8) (n : Nat) : Array Value := (s.list.map u32V ++ o.map byteV ++ [Value.int .u64 (n : Int)]).toArray
def IsHasher (w : World) (h : Nat) (m : List UInt8) : Prop := ∃ s o, Bk w h 206 (hashArr s o m.length) ∧ Sha.Abs m s o
theorem IsHasher.lt {w : World} {h : Nat} {m : List UInt8} (k : IsHasher w h m) : h < w.heap.size := by obtain ⟨s, o, hb, _⟩ := k; exact hb.lt
theorem IsHasher.kp {S : Nat → Prop} {w w' : World} {h : Nat} {m : List UInt8} (k : IsHasher w h m) (hk : Kp S w w') (hn : ¬ S h) : IsHasher w' h m := by obtain ⟨s, o, hb, ha⟩ := k; exact ⟨s, o, hb.kp hk hn, ha⟩
theorem hashArr_zero : hashArr Sha.first (List.replicate 64 0) 0 = (Sha.first.list.map u32V ++ (List.replicate 64 (0 : UInt8)).map byteV ++ [Value.int .u64 0]).toArray := rfl
theorem wpList_built {P : Program} {ops : Array Oper} {rest : List Oper} {o : Oper} {a : Act} {w : World} {Q : Exit → Act → World → Prop} (hg : o.guard = none) (t : TypeId) (parts : Array (Nat × Operand)) (ho : o.op = .build t parts)
    (cells : Array Value) (hf : P.built t (parts.map fun (i, x) => (i, a.eval x)).toList = some cells)
    (h : wpList P ops Q rest (a.put o.dst (.agg cells)) w) : wpList P ops Q (o :: rest) a w :=
  wpList_build hg t parts ho (by rw [hf]; rfl) (by rw [hf]; exact h)
theorem built_hash (s : Sha.St) : Tryd.prog.built 206 [(0, stV s)] = some (hashArr s (List.replicate 64 0) 0) := by kernel_rfl
theorem hash_new (w : World) (hl : Laid w) : Calls Tryd.prog 105 #[] w fun e w' => ∃ h, e = .returned (.pointer (some ⟨h, 0, none⟩)) ∧ w.heap.size ≤ h ∧ IsHasher w' h [] ∧ Below w.heap.size w w' := by
  have c0 : w.cell? ⟨0, 0, none⟩ = some (.int .u32 (Sha.first.a.toNat : Int)) := hl.hf 0 (by decide)
  have c1 : w.cell? ⟨0, 1, none⟩ = some (.int .u32 (Sha.first.b.toNat : Int)) := hl.hf 1 (by decide)
  have c2 : w.cell? ⟨0, 2, none⟩ = some (.int .u32 (Sha.first.c.toNat : Int)) := hl.hf 2 (by decide)
  have c3 : w.cell? ⟨0, 3, none⟩ = some (.int .u32 (Sha.first.d.toNat : Int)) := hl.hf 3 (by decide)
  have c4 : w.cell? ⟨0, 4, none⟩ = some (.int .u32 (Sha.first.e.toNat : Int)) := hl.hf 4 (by decide)
  have c5 : w.cell? ⟨0, 5, none⟩ = some (.int .u32 (Sha.first.f.toNat : Int)) := hl.hf 5 (by decide)
  have c6 : w.cell? ⟨0, 6, none⟩ = some (.int .u32 (Sha.first.g.toNat : Int)) := hl.hf 6 (by decide)
  have c7 : w.cell? ⟨0, 7, none⟩ = some (.int .u32 (Sha.first.h.toNat : Int)) := hl.hf 7 (by decide)
  have hlf := hl.lf
  have HBD := Lib.hid (built_hash Sha.first)
  simp only [stV] at HBD
  generalize hcs : hashArr Sha.first (List.replicate 64 0) 0 = cs at *
  have HCS := Lib.hid hcs
  clear hcs
  have HB := Lib.hid (Bk.new w 206 cs)
  clear hl
  go_enter Tryd.func105, Tryd.ntmps105
  go_wp2_with (refine wpList_built rfl 206 #[(0, .tmp 1)] rfl cs ?hb ?_)
  case hb => simpa [Act.eval] using HBD.out
  go_ret
  refine ⟨_, rfl, Nat.le_refl _, ⟨Sha.first, List.replicate 64 0, ?_, Sha.Abs.nil⟩, Joins.below_alloc1 _ _⟩
  show Bk _ _ _ (hashArr Sha.first (List.replicate 64 0) 0)
  rw [HCS.out]
  exact HB.out
theorem hashArr_size (s : Sha.St) (o : List UInt8) (n : Nat) (h : o.length = 64) : (hashArr s o n).size = 73 := by simp [hashArr, Sha.St.list, h]
theorem hash_n {w : World} {h n : Nat} {s : Sha.St} {o : List UInt8} (hb : Bk w h 206 (hashArr s o n)) (ho : o.length = 64) : w.cell? ⟨h, 72, none⟩ = some (.int .u64 (n : Int)) := by
  rw [hb.cell]
  simp only [hashArr, List.getElem?_toArray]
  rw [List.getElem?_append_right (by simp [Sha.St.list, ho])]
  simp [Sha.St.list, ho]
theorem hash_set_n {w : World} {h n : Nat} {s : Sha.St} {o : List UInt8} (hb : Bk w h 206 (hashArr s o n)) (ho : o.length = 64) (k : Nat) : Bk (w.setCell ⟨h, 72, none⟩ (.int .u64 (k : Int))) h 206 (hashArr s o k) := by
  have := hb.set 72 (.int .u64 (k : Int))
  have e : (hashArr s o n).setIfInBounds 72 (.int .u64 (k : Int)) = hashArr s o k := by
    simp only [hashArr, List.setIfInBounds_toArray]
    rw [List.set_append_right _ _ (by simp [Sha.St.list, ho])]
    simp [Sha.St.list, ho]
  rwa [e] at this
theorem hash_state {w : World} {h n : Nat} {s : Sha.St} {o : List UInt8} (hb : Bk w h 206 (hashArr s o n)) :
    w.cell? ⟨h, 0, none⟩ = some (.int .u32 (s.a.toNat : Int)) ∧ w.cell? ⟨h, 1, none⟩ = some (.int .u32 (s.b.toNat : Int)) ∧ w.cell? ⟨h, 2, none⟩ = some (.int .u32 (s.c.toNat : Int)) ∧ w.cell? ⟨h, 3, none⟩ = some (.int .u32 (s.d.toNat : Int)) ∧
    w.cell? ⟨h, 4, none⟩ = some (.int .u32 (s.e.toNat : Int)) ∧ w.cell? ⟨h, 5, none⟩ = some (.int .u32 (s.f.toNat : Int)) ∧ w.cell? ⟨h, 6, none⟩ = some (.int .u32 (s.g.toNat : Int)) ∧ w.cell? ⟨h, 7, none⟩ = some (.int .u32 (s.h.toNat : Int)) := by
  refine ⟨?_, ?_, ?_, ?_, ?_, ?_, ?_, ?_⟩ <;> (rw [hb.cell]; simp [hashArr, Sha.St.list, u32V])
theorem rangeAt_drewN {w : World} {b o : Nat} {cs : List Value} (h : w.rangeAt b o cs) (n : Nat) : (w.drewN n).rangeAt b o cs := h
theorem hash_open {w : World} {h n : Nat} {s : Sha.St} {o : List UInt8} (hb : Bk w h 206 (hashArr s o n)) (ho : o.length = 64) : w.rangeAt h 8 (bytesArr o).toList := by
  intro j v hv
  rw [hb.cell]
  have hj : j < 64 := by
    have := (List.getElem?_eq_some_iff.1 hv).1
    simpa [bytesArr, ho] using this
  simp only [hashArr, List.getElem?_toArray]
  rw [List.getElem?_append_left (by simp [Sha.St.list, ho]; omega), List.getElem?_append_right (by simp [Sha.St.list])]
  simpa [Sha.St.list, bytesArr] using hv
theorem range_set8 {w : World} {h : Nat} {cs : List Value} (k : w.rangeAt h 8 cs) (x0 x1 x2 x3 x4 x5 x6 x7 : Value) :
    ((((((((w.setCell ⟨h, 0, none⟩ x0).setCell ⟨h, 1, none⟩ x1).setCell ⟨h, 2, none⟩ x2).setCell ⟨h, 3, none⟩ x3).setCell ⟨h, 4, none⟩ x4).setCell ⟨h, 5, none⟩ x5).setCell ⟨h, 6, none⟩ x6).setCell ⟨h, 7, none⟩ x7).rangeAt h 8 cs := by
  intro j v hj
  have := k j v hj
  go_simp
theorem hash_set_state {w : World} {h n : Nat} {s : Sha.St} {o : List UInt8} (hb : Bk w h 206 (hashArr s o n)) (s' : Sha.St) : Bk ((((((((w.setCell ⟨h, 0, none⟩ (.int .u32 (s'.a.toNat : Int))).setCell ⟨h, 1, none⟩ (.int .u32 (s'.b.toNat : Int))).setCell ⟨h, 2, none⟩ (.int .u32 (s'.c.toNat : Int))).setCell ⟨h, 3, none⟩ (.int .u32 (s'.d.toNat : Int))).setCell ⟨h, 4, none⟩ (.int .u32 (s'.e.toNat : Int))).setCell ⟨h, 5, none⟩ (.int .u32 (s'.f.toNat : Int))).setCell ⟨h, 6, none⟩ (.int .u32 (s'.g.toNat : Int))).setCell ⟨h, 7, none⟩ (.int .u32 (s'.h.toNat : Int))) h 206 (hashArr s' o n) := by
  have := (((((((hb.set 0 (.int .u32 (s'.a.toNat : Int))).set 1 (.int .u32 (s'.b.toNat : Int))).set 2 (.int .u32 (s'.c.toNat : Int))).set 3 (.int .u32 (s'.d.toNat : Int))).set 4 (.int .u32 (s'.e.toNat : Int))).set 5 (.int .u32 (s'.f.toNat : Int))).set 6 (.int .u32 (s'.g.toNat : Int))).set 7 (.int .u32 (s'.h.toNat : Int))
  simpa [hashArr, Sha.St.list, u32V] using this
theorem kp_set8 {S : Nat → Prop} {a w : World} {h : Nat} (k : Kp S a w) (hS : S h) (s' : Sha.St) : Kp S a ((((((((w.setCell ⟨h, 0, none⟩ (.int .u32 (s'.a.toNat : Int))).setCell ⟨h, 1, none⟩ (.int .u32 (s'.b.toNat : Int))).setCell ⟨h, 2, none⟩ (.int .u32 (s'.c.toNat : Int))).setCell ⟨h, 3, none⟩ (.int .u32 (s'.d.toNat : Int))).setCell ⟨h, 4, none⟩ (.int .u32 (s'.e.toNat : Int))).setCell ⟨h, 5, none⟩ (.int .u32 (s'.f.toNat : Int))).setCell ⟨h, 6, none⟩ (.int .u32 (s'.g.toNat : Int))).setCell ⟨h, 7, none⟩ (.int .u32 (s'.h.toNat : Int))) :=
  (((((((k.setCell (p := ⟨h, 0, none⟩) (fun _ => hS) _).setCell (p := ⟨h, 1, none⟩) (fun _ => hS) _).setCell (p := ⟨h, 2, none⟩) (fun _ => hS) _).setCell (p := ⟨h, 3, none⟩) (fun _ => hS) _).setCell (p := ⟨h, 4, none⟩) (fun _ => hS) _).setCell (p := ⟨h, 5, none⟩) (fun _ => hS) _).setCell (p := ⟨h, 6, none⟩) (fun _ => hS) _).setCell (p := ⟨h, 7, none⟩) (fun _ => hS) _
theorem copy_hash (wr : World) (h b off c B N at_ k dCap : Nat) (s : Sha.St) (o r : List UInt8) (hb : Bk wr h 206 (hashArr s o N)) (ho : o.length = 64) (hat : at_ < 64) (hr : BytesAt wr B (some ⟨b, off, none⟩) r) (hk : k = min r.length (64 - at_)) :
    ∃ W2, (∀ ty, (Builtin.copy_ #[22, 22] ty #[.slice (some ⟨h, 8 + at_, none⟩) (64 - at_) dCap, .slice (some ⟨b, off, none⟩) r.length c]).run Tryd.prog wr = .ok (goInt k) W2) ∧
      Bk W2 h 206 (hashArr s (Sha.put o (r.take k) at_) N) ∧ Kp (fun i => i = h) wr W2 := by
  have hlk : (r.take k).length = k := by rw [List.length_take]; omega
  have hcl : ((r.take k).map byteV).length = k := by rw [List.length_map, hlk]
  have hsrc := BytesAt.src (BytesAt.take hr k)
  have hrun := fun ty => run_copy_row (P := Tryd.prog) wr 22 22 ty 5 h (8 + at_) (64 - at_) dCap ⟨b, off, none⟩ r.length c (hashArr s o N) 206 ((r.take k).map byteV)
    Tryd.underlying22 info_u8 hb (by rw [hcl, hk]) (fun j v hj => by obtain ⟨ad, ha, hc⟩ := hsrc j v hj; cases ha; exact hc) (by rw [hashArr_size s o N ho, hcl]; omega) (oneCell_bytes _)
  have hrow : ((hashArr s o N).toList.take (8 + at_) ++ (r.take k).map byteV ++ (hashArr s o N).toList.drop (8 + at_ + k)).toArray = hashArr s (Sha.put o (r.take k) at_) N := by
    simp only [hashArr, Sha.put, hlk]
    congr 1
    have h8 : (s.list.map u32V).length = 8 := by simp [Sha.St.list]
    rw [List.append_assoc (s.list.map u32V), List.take_append, List.drop_append, h8, show 8 + at_ - 8 = at_ by omega, show 8 + at_ + k - 8 = at_ + k by omega,
      List.take_of_length_le (by omega), List.drop_of_length_le (by omega), List.take_append_of_le_length (by rw [List.length_map, ho]; omega), List.drop_append_of_le_length (by rw [List.length_map, ho]; omega)]
    simp [List.map_take, List.map_drop]
  rw [hcl, hrow] at hrun
  exact ⟨_, hrun, setRow_heap _ _ _ _ _ _ hb, Kp.setRow (S := fun i => i = h) (Kp.refl _ _) (fun _ => rfl) _⟩
theorem BytesAt.kp_ne {w w' : World} {B h : Nat} {A : Option Addr} {l : List UInt8} (k : BytesAt w B A l) (hB : B ≤ w.heap.size) (hk : Kp (fun i => i = h) w w') (hA : ∀ a, A = some a → a.block ≠ h) : BytesAt w' B A l := by
  intro i hi
  obtain ⟨b, off, vs, hA', hb, hR, hc⟩ := k i hi
  exact ⟨b, off, vs, hA', hb, hR, fun j hj => (hk.cell (p := ⟨b, off + i * 1 + j, none⟩) (Nat.lt_of_lt_of_le hb hB) (show ¬ b = h from hA _ hA')).trans (hc j hj)⟩
/-- so much is taken in -/
structure AddRel (w : World) (h : Nat) (m q : List UInt8) (p : Value) (wr : World) (d r : List UInt8) (A : Option Addr) (c : Nat) : Prop where
  qe : q = d ++ r
  pe : p = .slice A r.length c
  rc : r.length ≤ c
  cm : c ≤ maxLen
  at_ : BytesAt w w.heap.size A r
  ne : ∀ a, A = some a → 0 < r.length → a.block ≠ h
  is : IsHasher wr h (m ++ d)
  kp : Kp (fun i => i = h) w wr
theorem addRel_next {w wr W' : World} {h : Nat} {m q d r : List UInt8} {b off c k : Nat} (hqe : q = d ++ r) (hrc : r.length ≤ c) (hcm : c ≤ maxLen) (hat : BytesAt w w.heap.size (some ⟨b, off, none⟩) r) (hne : b ≠ h) (hk : k ≤ r.length)
    (his : IsHasher W' h (m ++ d ++ r.take k)) (hkp : Kp (fun i => i = h) w W') :
    ∃ d' r' A' c', AddRel w h m q (.slice (if c = k then some ⟨b, off, none⟩ else some ⟨b, off + k, none⟩) (r.length - k) (c - k)) W' d' r' A' c' := by
  refine ⟨d ++ r.take k, r.drop k, if c = k then some ⟨b, off, none⟩ else some ⟨b, off + k, none⟩, c - k, ⟨by rw [hqe, List.append_assoc, List.take_append_drop], by rw [List.length_drop], by rw [List.length_drop]; omega, by omega, ?_, ?_, by rw [← List.append_assoc]; exact his, hkp⟩⟩
  · by_cases e : c = k
    · have : r.drop k = [] := List.drop_of_length_le (by omega)
      rw [this]
      exact fun i hi => by simp at hi
    · rw [if_neg e]; exact hat.drop k
  · intro a ha _
    by_cases e : c = k
    · rw [if_pos e] at ha; cases ha; exact hne
    · rw [if_neg e] at ha; cases ha; exact hne
theorem part_is {W2 : World} {h N k at_ : Nat} {s : Sha.St} {o l t : List UInt8} (hb : Bk W2 h 206 (hashArr s (Sha.put o t at_) N)) (ha : Sha.Abs l s o) (hN : N = l.length) (hat : at_ = N % 64) (hk : t.length = k) (hlt : at_ + k < 64) (z : Int) (hz : z = ((N + k : Nat) : Int)) :
    IsHasher (W2.setCell ⟨h, 72, none⟩ (.int .u64 z)) h (l ++ t) := by
  subst hz; subst hN; subst hk; subst hat
  have ha2 := ha.part hlt
  refine ⟨s, Sha.put o t (l.length % 64), ?_, ha2⟩
  have := hash_set_n hb ha2.len (l.length + t.length)
  rwa [List.length_append]
set_option maxHeartbeats 2000000 in
theorem add_any (h : Nat) (m q : List UInt8) (A : Option Addr) (c : Nat) (w : World) (hi : IsHasher w h m) (hl : Laid w) (h1 : 1 ≠ h) (h2 : 0 ≠ h) (hq : BytesAt w w.heap.size A q) (hA : ∀ a, A = some a → 0 < q.length → a.block ≠ h)
    (hc : q.length ≤ c) (hm : c ≤ maxLen) (hs : m.length + q.length ≤ 1152921504606846976) :
    Calls Tryd.prog 110 #[.pointer (some ⟨h, 0, none⟩), .slice A q.length c] w fun e w' => e = .returned (.tuple #[]) ∧ IsHasher w' h (m ++ q) ∧ Kp (fun i => i = h) w w' := by
  have HI := Lib.hid hi
  have HQ := Lib.hid hq
  have HA := Lib.hid hA
  have HL := Lib.hid hl
  clear hi hq hA hl
  go_enter Tryd.func110, Tryd.ntmps110
  go_wp2_with fail
  go_loopw [1] (fun p wr => ∃ d r A c, AddRel w h m q p wr d r A c) (fun p _ => match p with | .slice _ l _ => l | _ => 0)
  case atStart => exact ⟨[], q, A, c, rfl, rfl, hc, hm, HQ.out, HA.out, by simpa using HI.out, Kp.refl _ _⟩
  case round =>
    clear hc hm HI HQ HA
    obtain ⟨d, r, A, c, ⟨hqe, rfl, hrc, hcm, hat, hne, ⟨s, o, hbk, habs⟩, hkp⟩⟩ := hrel
    have hlq : q.length = d.length + r.length := by rw [hqe, List.length_append]
    have HQE := Lib.hid hqe
    have HLQ := Lib.hid hlq
    have hlr : r.length ≤ q.length := by omega
    clear hqe
    unfold maxLen at hcm
    by_cases hr0 : 0 < r.length
    · obtain ⟨b, off, rfl, hbB, _⟩ := hat.cell (i := 0) hr0
      obtain ⟨N, hN⟩ : ∃ N, N = (m ++ d).length := ⟨_, rfl⟩
      have hN2 : N = m.length + d.length := by rw [hN, List.length_append]
      rw [← hN] at hbk
      obtain ⟨at_, hat_⟩ : ∃ a, a = N % 64 := ⟨_, rfl⟩
      obtain ⟨k, hk⟩ : ∃ k, k = min r.length (64 - at_) := ⟨_, rfl⟩
      have ha64 : at_ < 64 := by omega
      have ha65 : ¬ (64 = at_) := by omega
      have ha66 : (0 : Int) ≤ (at_ : Int) := by omega
      have ha67 : (at_ : Int) ≤ 64 := by omega
      obtain ⟨W2, hcp, hb2, hk2⟩ := copy_hash wr h b off c w.heap.size N at_ k (64 - at_) s o r hbk habs.len ha64 (hat.kp_ne (Nat.le_refl _) hkp (fun a ha => hne a ha hr0)) hk
      have c72 := hash_n hbk habs.len
      have d72 := hash_n hb2 (by rw [Sha.put_len (by rw [List.length_take, habs.len]; omega), habs.len])
      have f72 : W2.frozen? ⟨h, 72, none⟩ = false := hb2.frozen 72
      have eAt : bits .and .u64 (N : Int) 63 = (at_ : Int) := by
        rw [show (63 : Int) = ((63 : Nat) : Int) by rfl, bits_and_u64_nat N 63 (by omega) (by decide), show 63 = 2 ^ 6 - 1 by rfl, Nat.and_two_pow_sub_one_eq_mod, hat_]
      have eAt2 : bits .and .u64 ((N : Int) + (k : Int)) 63 = (((N + k) % 64 : Nat) : Int) := by
        rw [show (63 : Int) = ((63 : Nat) : Int) by rfl, show (N : Int) + (k : Int) = ((N + k : Nat) : Int) by omega, bits_and_u64_nat (N + k) 63 (by omega) (by decide), show 63 = 2 ^ 6 - 1 by rfl, Nat.and_two_pow_sub_one_eq_mod]
      have HN := Lib.hid hN
      have HAT := Lib.hid hat_
      have HK := Lib.hid hk
      have hkr : k ≤ r.length := by omega
      have hNb : N ≤ 1152921504606846976 := by omega
      have HN2 := Lib.hid hN2
      clear hN2 hlq
      have hka : k ≤ 64 - at_ := by omega
      have HB2 := Lib.hid hb2
      have HKP := Lib.hid (hkp.trans hk2)
      clear hbk hb2 hk2 hkp
      by_cases hfull : r.length < 64 - at_
      · have ez : (((N + k) % 64 : Nat) : Int) = (((at_ + k : Nat)) : Int) := by have := HAT.out; omega
        have ek : k = r.length := by omega
        have enz : (((at_ + k : Nat) : Int) == 0) = false := by rw [beq_eq_false_iff_ne]; omega
        rw [ez] at eAt2
        have HEK := Lib.hid ek
        clear hN hat_ hk ez ek
        go_wp2_with fail
        go_roundw
        case rel =>
          have hlk : (r.take k).length = k := by rw [List.length_take]; omega
          exact addRel_next (wr := wr) HQE.out hrc hcm hat (hne _ rfl hr0) hkr (part_is HB2.out habs HN.out HAT.out hlk (by have := HEK.out; omega) _ (by omega)) (Kp.setCell (S := fun i => i = h) HKP.out (fun _ => rfl) _)
        case measure => simp; have := HEK.out; omega
      · have ek : at_ + k = 64 := by omega
        have ez : (((N + k) % 64 : Nat) : Int) = 0 := by omega
        rw [ez] at eAt2
        have HEK := Lib.hid ek
        clear hN hat_ hk ez ek
        have hlk : (r.take k).length = k := by rw [List.length_take]; omega
        have HFU := Lib.hid (by have := habs.full (t := r.take k) (by rw [hlk, ← HN.out, ← HAT.out]; exact HEK.out); rw [← HN.out, ← HAT.out] at this; exact this)
        have HB3 := Lib.hid (hash_set_n HB2.out (HFU.out.len) (N + k))
        go_upto_region 6 with (fail)
        generalize hA2 : (if c = k then some (⟨b, off, none⟩ : Addr) else some ⟨b, off + k, none⟩) = A2
        have HA2 := Lib.hid hA2
        clear hA2
        obtain ⟨W3, hW3⟩ : ∃ W3, W3 = W2.setCell ⟨h, 72, none⟩ (.int .u64 ((N : Int) + (k : Int))) := ⟨_, rfl⟩
        rw [← hW3]
        have hb3 : Bk W3 h 206 (hashArr s (Sha.put o (r.take k) at_) (N + k)) := by rw [hW3]; exact HB3.out
        have hk3 : Kp (fun i => i = h) w W3 := by rw [hW3]; exact Kp.setCell (S := fun i => i = h) HKP.out (fun _ => rfl) _
        have hs0 := hash_state hb3
        obtain ⟨s0, s1, s2, s3, s4, s5, s6, s7⟩ := hs0
        have hop := hash_open hb3 HFU.out.len
        obtain ⟨cs, hcells⟩ : ∃ cs, bytesArr (Sha.put o (r.take k) at_) = cs := ⟨_, rfl⟩
        rw [hcells] at hop
        have hcl : cs.toList.length = 64 := by rw [← hcells]; simp [bytesArr, HFU.out.len]
        have hu := Tryd.underlying203
        have hi : (Tryd.prog.info? 203).map (·.size) = some cs.toList.length := by rw [hcl]; exact info_b64
        have hone : ∀ v ∈ cs.toList, v.oneCell' = true := by rw [← hcells]; simpa [bytesArr] using oneCell_bytes (Sha.put o (r.take k) at_)
        have hf3 := hb3.frozen
        have hbk := fun n => block_any s (Sha.put o (r.take k) at_) HFU.out.len (W3.drewN n) (HL.out.kp (hk3.drewN n) h1 h2)
        obtain ⟨s', hs'⟩ : ∃ s', Sha.block s (Sha.put o (r.take k) at_) = s' := ⟨_, rfl⟩
        rw [hcells, hs'] at hbk
        simp only [stV] at hbk
        have HS' := Lib.hid hs'
        clear hs'
        have HBK := Lib.hid hbk
        have HW3 := Lib.hid hW3
        have HCE := Lib.hid hcells
        have HB3' := Lib.hid hb3
        have HLT := Lib.hid hb3.lt
        clear hW3 hcells hb3
        clear d72 f72 c72 hcp
        clear hbk
        refine wp_region_held_drew (S := fun w' => w'.rangeAt h 8 cs.toList) (by kernel_rfl) (rangeAt_drewN hop 1) (fun hHeld => ?_)
        refine wpAnyH_take (i := 0) (v := ?_) rfl (by kernel_rfl) (by kernel_rfl) (by kernel_rfl) (fun _ _ _ h => h) (Or.inl ⟨by rfl, ?_⟩) hHeld ?_
        rotate_left
        · (intro w hSw; go_simp <;> with_reducible rfl)
        simp only [Act.put, List.setIfInBounds_toArray, List.set_cons_zero, List.set_cons_succ]
        refine wpAnyH_take (i := 1) (v := ?_) rfl (by kernel_rfl) (by kernel_rfl) (by kernel_rfl) (fun _ _ _ h => h) (Or.inl ⟨by rfl, ?_⟩) hHeld ?_
        rotate_left
        · (intro w hSw; go_simp <;> with_reducible rfl)
        simp only [Act.put, List.setIfInBounds_toArray, List.set_cons_zero, List.set_cons_succ]
        refine wpAnyH_take (i := 2) (v := ?_) rfl (by kernel_rfl) (by kernel_rfl) (by kernel_rfl) (fun _ _ _ h => h) (Or.inl ⟨by rfl, ?_⟩) hHeld ?_
        rotate_left
        · (intro w hSw; go_simp <;> with_reducible rfl)
        simp only [Act.put, List.setIfInBounds_toArray, List.set_cons_zero, List.set_cons_succ]
        refine wpAnyH_take (i := 3) (v := ?_) rfl (by kernel_rfl) (by kernel_rfl) (by kernel_rfl) (fun _ _ _ h => h) (Or.inl ⟨by rfl, ?_⟩) hHeld ?_
        rotate_left
        · (intro w hSw; go_simp <;> with_reducible rfl)
        simp only [Act.put, List.setIfInBounds_toArray, List.set_cons_zero, List.set_cons_succ]
        refine wpAnyH_take (i := 5) (v := ?_) rfl (by kernel_rfl) (by kernel_rfl) (by kernel_rfl) (fun _ _ _ h => h) (Or.inl ⟨by rfl, ?_⟩) hHeld ?_
        rotate_left
        · (intro w hSw; go_simp <;> with_reducible rfl)
        simp only [Act.put, List.setIfInBounds_toArray, List.set_cons_zero, List.set_cons_succ]
        refine wpAnyH_take (i := 6) (v := ?_) rfl (by kernel_rfl) (by kernel_rfl) (by kernel_rfl) (fun _ _ _ h => h) (Or.inl ⟨by rfl, ?_⟩) hHeld ?_
        rotate_left
        · (intro w hSw; go_simp <;> with_reducible rfl)
        simp only [Act.put, List.setIfInBounds_toArray, List.set_cons_zero, List.set_cons_succ]
        refine wpAnyH_take (i := 7) (v := ?_) rfl (by kernel_rfl) (by kernel_rfl) (by kernel_rfl) (fun _ _ _ h => h) (Or.inl ⟨by rfl, ?_⟩) hHeld ?_
        rotate_left
        · (intro w hSw; go_simp <;> with_reducible rfl)
        simp only [Act.put, List.setIfInBounds_toArray, List.set_cons_zero, List.set_cons_succ]
        refine' wpAnyH_take (i := 8) (oi := { dst := some 48, op := Op.load 203 (Operand.tmp 47), type := 203, pos := "sha.go:68", after := #[{ on := 7, ground := Ground.data }], guard := none }) (v := _) rfl (by kernel_rfl) (by kernel_rfl) (by kernel_rfl) (fun _ _ _ h => h) (yieldsIf_load_mid (by rfl) _ _ rfl _ _ rfl cs.toList _ ?hS ?hu ?hd ?hi) hHeld ?rest
        case hS => exact fun _ h => h
        case hu => exact hu
        case hd => rfl
        case hi => exact hi
        simp only [Act.put, List.setIfInBounds_toArray, List.set_cons_zero, List.set_cons_succ, Array.toArray_toList]
        refine wpAnyH_ready (rs := [4]) (by kernel_rfl) (by simp) ?_
        refine AllReadyH.cons rfl (fun K hK => ?_) AllReadyH.nil
        go_simp
        refine hK.out _ _ hHeld (fun hHeld => ?_)
        clear hK K
        try simp only [Act.put, List.setIfInBounds_toArray, List.set_cons_zero, List.set_cons_succ]
        refine wpAnyH_ready (rs := [9]) (by kernel_rfl) (by simp) ?_
        refine AllReadyH.cons rfl (fun K hK => ?_) AllReadyH.nil
        go_simp
        refine (HBK.out 1).mono ?_
        rintro e w' ⟨rfl, hb⟩
        have hx := (HB3'.out.drewN 1).below hb HLT.out
        obtain ⟨t0, t1, t2, t3, t4, t5, t6, t7⟩ := hash_state hx
        have tf := hx.frozen
        clear hx
        go_wp2_with fail
        refine hK.out _ _ (fun j v hj => (hb.cell (p := ⟨h, 8 + j, none⟩) HLT.out).trans (hop j v hj)) (fun hHeld => ?_)
        clear hK K
        try simp only [Act.put, List.setIfInBounds_toArray, List.set_cons_zero, List.set_cons_succ]
        refine wpAnyH_take (i := 10) (v := ?_) rfl (by kernel_rfl) (by kernel_rfl) (by kernel_rfl) (fun _ _ _ h => h) (Or.inl ⟨by rfl, ?_⟩) hHeld ?_
        rotate_left
        · (intro w hSw; go_simp <;> with_reducible rfl)
        simp only [Act.put, List.setIfInBounds_toArray, List.set_cons_zero, List.set_cons_succ]
        refine wpAnyH_take (i := 11) (v := ?_) rfl (by kernel_rfl) (by kernel_rfl) (by kernel_rfl) (fun _ _ _ h => h) (Or.inl ⟨by rfl, ?_⟩) hHeld ?_
        rotate_left
        · (intro w hSw; go_simp <;> with_reducible rfl)
        simp only [Act.put, List.setIfInBounds_toArray, List.set_cons_zero, List.set_cons_succ]
        refine wpAnyH_ready (rs := [12]) (by kernel_rfl) (by simp) ?_
        refine AllReadyH.cons rfl (fun K hK => ?_) AllReadyH.nil
        go_simp
        refine hK.out _ _ (range_set8 hHeld _ _ _ _ _ _ _ _) (fun hHeld => ?_)
        clear hK K
        refine wpAnyH_done (by kernel_rfl) ?_ _
        go_wp2_with fail
        go_roundw
        case rel =>
          have hel : (m ++ d ++ r.take k).length = N + k := by rw [List.length_append, hlk, ← HN.out]
          have hend := addRel_next (wr := wr) HQE.out hrc hcm hat (hne _ rfl hr0) hkr (W' := _) ⟨s', Sha.put o (r.take k) at_, by rw [hel]; exact hash_set_state ((HB3'.out.drewN _).below hb HLT.out) s', by have := HFU.out; rw [HS'.out] at this; exact this⟩
            (kp_set8 (S := fun i => i = h) ((hk3.drewN _).trans (Kp.of_below hb)) rfl s')
          rw [HA2.out] at hend
          exact hend
        case measure => simp; have := HEK.out; omega
    · have hr : r = [] := List.eq_nil_of_length_eq_zero (by omega)
      have HD := Lib.hid (show m ++ d = m ++ q by rw [HQE.out, hr, List.append_nil])
      have HIS := Lib.hid (show IsHasher wr h (m ++ d) from ⟨s, o, hbk, habs⟩)
      have hrl : r.length = 0 := by omega
      clear hbk habs hat hne hlq
      subst hr
      go_wp2_with fail
      go_end0
      exact ⟨rfl, by rw [← HD.out]; exact HIS.out, hkp⟩
end Go.Proofs.YtpacgblddeoheaaDoor
