/- Package tx: a cursor, in plain Lean and walked. -/
import Derived.Test.YtanjlgkbjcienaaDoorTxPut
import Derived.Test.YtanjlgkbjcienaaDoorTxPure2
import Derived.Test.YtanjlgkbjcienaaDoorOctRead
namespace Go.Proofs.YtanjlgkbjcienaaDoor.Txs
/-- where it reads, and what is wrong -/
structure Cur where
  p : Nat
  e : Int
def Cur.take (b : List UInt8) (s : Cur) (k : Nat) : List UInt8 × Cur :=
  if s.e ≠ 0 then ([], s) else if b.length < s.p + k then ([], ⟨s.p, 4⟩) else ((b.drop s.p).take k, ⟨s.p + k, 0⟩)
def Cur.count (b : List UInt8) (s : Cur) (most : Nat) : Nat × Cur :=
  if s.e ≠ 0 then (0, s)
  else if (Txs.count (b.drop s.p) most).2.2 ≠ 0 then (0, ⟨s.p, (Txs.count (b.drop s.p) most).2.2⟩)
  else ((Txs.count (b.drop s.p) most).1, ⟨s.p + (Txs.count (b.drop s.p) most).2.1, 0⟩)
def fill32 (l : List UInt8) : List UInt8 := l ++ List.replicate (32 - l.length) 0
/-- one input, read with whatever is wrong -/
def Cur.inp (b : List UInt8) (s : Cur) : In × Cur :=
  (⟨fill32 (s.take b 32).1, Oct.val ((s.take b 32).2.take b 4).1, ((((s.take b 32).2.take b 4).2.count b 64).2.take b (((s.take b 32).2.take b 4).2.count b 64).1).1⟩,
    ((((s.take b 32).2.take b 4).2.count b 64).2.take b (((s.take b 32).2.take b 4).2.count b 64).1).2)
def Cur.out (b : List UInt8) (s : Cur) : Out × Cur :=
  (⟨Oct.val (s.take b 8).1, fill32 ((s.take b 8).2.take b 32).1⟩, ((s.take b 8).2.take b 32).2)
def Cur.ins (b : List UInt8) : Nat → Cur → List In → List In × Cur
  | 0, s, acc => (acc, s)
  | k + 1, s, acc => if s.e ≠ 0 then (acc, s) else Cur.ins b k (s.inp b).2 (acc ++ [(s.inp b).1])
def Cur.outs (b : List UInt8) : Nat → Cur → List Out → List Out × Cur
  | 0, s, acc => (acc, s)
  | k + 1, s, acc => if s.e ≠ 0 then (acc, s) else Cur.outs b k (s.out b).2 (acc ++ [(s.out b).1])
theorem Cur.take_le {b : List UInt8} {s : Cur} {k : Nat} (h : s.p ≤ b.length) : (s.take b k).2.p ≤ b.length := by
  unfold Cur.take; split
  · exact h
  · split
    · exact h
    · show s.p + k ≤ _; omega
theorem Cur.take_len (b : List UInt8) (s : Cur) (k : Nat) : (s.take b k).1.length = 0 ∨ (s.take b k).1.length = k := by
  unfold Cur.take; split
  · exact .inl rfl
  · split
    · exact .inl rfl
    · right; simp only [List.length_take, List.length_drop]; omega
theorem Cur.count_le {b : List UInt8} {s : Cur} {m : Nat} (hm : m < 253) (h : s.p ≤ b.length) : (s.count b m).2.p ≤ b.length ∧ (s.count b m).1 ≤ m := by
  unfold Cur.count; split
  · exact ⟨h, Nat.zero_le _⟩
  · rcases count_back (b := b.drop s.p) hm with ⟨h1, _, _⟩ | ⟨h1, h2, h3, h4, _⟩
    · rw [if_pos h1]; exact ⟨h, Nat.zero_le _⟩
    · rw [if_neg (by simp [h1])]
      rw [List.length_drop] at h4
      exact ⟨by show s.p + _ ≤ _; omega, h2⟩
theorem Cur.inp_le {b : List UInt8} {s : Cur} (h : s.p ≤ b.length) : (s.inp b).2.p ≤ b.length :=
  Cur.take_le (Cur.count_le (by omega) (Cur.take_le (Cur.take_le h))).1
theorem Cur.out_le {b : List UInt8} {s : Cur} (h : s.p ≤ b.length) : (s.out b).2.p ≤ b.length := Cur.take_le (Cur.take_le h)
theorem fill32_len {l : List UInt8} (h : l.length ≤ 32) : (fill32 l).length = 32 := by unfold fill32; rw [List.length_append, List.length_replicate]; omega
theorem fill32_full {l : List UInt8} (h : l.length = 32) : fill32 l = l := by unfold fill32; rw [h]; simp
theorem Cur.inp_ok (b : List UInt8) (s : Cur) : (s.inp b).1.Ok := by
  refine ⟨fill32_len (by rcases Cur.take_len b s 32 with h | h <;> omega), ?_⟩
  show Oct.val _ < _
  have := Oct.val_lt ((s.take b 32).2.take b 4).1
  rcases Cur.take_len b (s.take b 32).2 4 with h | h
  · rw [h] at this; have : (256 : Nat) ^ 0 = 1 := rfl; omega
  · rw [h] at this; exact this
theorem Cur.out_ok (b : List UInt8) (s : Cur) : (s.out b).1.Ok := by
  refine ⟨?_, fill32_len (by rcases Cur.take_len b (s.take b 8).2 32 with h | h <;> omega)⟩
  show Oct.val _ < _
  have := Oct.val_lt (s.take b 8).1
  rcases Cur.take_len b s 8 with h | h
  · rw [h] at this; have : (256 : Nat) ^ 0 = 1 := rfl; omega
  · rw [h] at this; exact this
/-- what the program reads -/
def getP (b : List UInt8) : Tx × Nat × Int :=
  let a := Cur.take b ⟨0, 0⟩ 4
  let n := a.2.count b 8
  let i := Cur.ins b n.1 n.2 []
  let m := i.2.count b 8
  let o := Cur.outs b m.1 m.2 []
  if o.2.e ≠ 0 then (none, 0, o.2.e) else (⟨Oct.val a.1, i.1, o.1⟩, o.2.p, 0)
theorem Cur.ins_err {b : List UInt8} {s : Cur} (h : s.e ≠ 0) (k : Nat) (acc : List In) : Cur.ins b k s acc = (acc, s) := by
  cases k with
  | zero => rfl
  | succ k => unfold Cur.ins; rw [if_pos h]
theorem Cur.outs_err {b : List UInt8} {s : Cur} (h : s.e ≠ 0) (k : Nat) (acc : List Out) : Cur.outs b k s acc = (acc, s) := by
  cases k with
  | zero => rfl
  | succ k => unfold Cur.outs; rw [if_pos h]
theorem Cur.take_err {b : List UInt8} {s : Cur} (h : s.e ≠ 0) (k : Nat) : s.take b k = ([], s) := by unfold Cur.take; rw [if_pos h]
theorem Cur.count_err {b : List UInt8} {s : Cur} (h : s.e ≠ 0) (k : Nat) : s.count b k = (0, s) := by unfold Cur.count; rw [if_pos h]
theorem Cur.take_four (b : List UInt8) (p k : Nat) : Cur.take b ⟨p, 4⟩ k = ([], ⟨p, 4⟩) := Cur.take_err (by simp) k
theorem Cur.count_four (b : List UInt8) (p k : Nat) : Cur.count b ⟨p, 4⟩ k = (0, ⟨p, 4⟩) := Cur.count_err (by simp) k
theorem Cur.ins_get (b : List UInt8) : ∀ (k p : Nat) (acc : List In), p ≤ b.length →
    ((getIns b k p acc).2.2 = 0 ∧ Cur.ins b k ⟨p, 0⟩ acc = ((getIns b k p acc).2.1, ⟨(getIns b k p acc).1, 0⟩)) ∨ ((getIns b k p acc).2.2 ≠ 0 ∧ (Cur.ins b k ⟨p, 0⟩ acc).2.e = (getIns b k p acc).2.2)
  | 0, p, acc, _ => .inl ⟨rfl, rfl⟩
  | k + 1, p, acc, hp => by
    unfold Cur.ins
    rw [if_neg (by simp)]
    unfold getIns
    by_cases h32 : b.length < p + 32
    · have ht : Cur.take b ⟨p, 0⟩ 32 = ([], ⟨p, 4⟩) := by unfold Cur.take; rw [if_neg (by simp), if_pos h32]
      have hi : (Cur.inp b ⟨p, 0⟩).2 = ⟨p, 4⟩ := by
        unfold Cur.inp; simp only [ht, Cur.take_four, Cur.count_four]
      rw [hi, Cur.ins_err (s := ⟨_, 4⟩) (by simp), if_pos (by omega)]
      right; exact ⟨by simp, rfl⟩
    have ht : Cur.take b ⟨p, 0⟩ 32 = ((b.drop p).take 32, ⟨p + 32, 0⟩) := by unfold Cur.take; rw [if_neg (by simp), if_neg h32]
    by_cases h36 : b.length < p + 36
    · have ht2 : Cur.take b ⟨p + 32, 0⟩ 4 = ([], ⟨p + 32, 4⟩) := by unfold Cur.take; rw [if_neg (by simp), if_pos (by show b.length < p + 32 + 4; omega)]
      have hi : (Cur.inp b ⟨p, 0⟩).2 = ⟨p + 32, 4⟩ := by
        unfold Cur.inp; simp only [ht, ht2, Cur.take_four, Cur.count_four]
      rw [hi, Cur.ins_err (s := ⟨_, 4⟩) (by simp), if_pos h36]
      right; exact ⟨by simp, rfl⟩
    have ht2 : Cur.take b ⟨p + 32, 0⟩ 4 = ((b.drop (p + 32)).take 4, ⟨p + 36, 0⟩) := by unfold Cur.take; rw [if_neg (by simp), if_neg (by show ¬ b.length < p + 32 + 4; omega)]
    rw [if_neg h36]
    rcases count_back (b := b.drop (p + 36)) (most := 64) (by omega) with ⟨c1, _, _⟩ | ⟨c1, c2, c3, c4, c5⟩
    · have hc : Cur.count b ⟨p + 36, 0⟩ 64 = (0, ⟨p + 36, (Txs.count (b.drop (p + 36)) 64).2.2⟩) := by unfold Cur.count; rw [if_neg (by simp), if_pos c1]
      have hi : (Cur.inp b ⟨p, 0⟩).2 = ⟨p + 36, (Txs.count (b.drop (p + 36)) 64).2.2⟩ := by
        unfold Cur.inp; simp only [ht, ht2, hc]
        rw [Cur.take_err (s := ⟨p + 36, _⟩) c1]
      rw [hi, Cur.ins_err (s := ⟨p + 36, _⟩) c1, if_pos c1]
      right; exact ⟨c1, rfl⟩
    rw [if_neg (by simp [c1])]
    rw [List.length_drop] at c4
    have hc : Cur.count b ⟨p + 36, 0⟩ 64 = ((Txs.count (b.drop (p + 36)) 64).1, ⟨p + 36 + 1, 0⟩) := by unfold Cur.count; rw [if_neg (by simp), if_neg (by simp [c1])]; simp only [c3]
    rw [c3]
    generalize (Txs.count (b.drop (p + 36)) 64).1 = s at *
    by_cases hs : b.length < p + 36 + 1 + s
    · have ht3 : Cur.take b ⟨p + 36 + 1, 0⟩ s = ([], ⟨p + 36 + 1, 4⟩) := by unfold Cur.take; rw [if_neg (by simp), if_pos hs]
      have hi : (Cur.inp b ⟨p, 0⟩).2 = ⟨p + 36 + 1, 4⟩ := by unfold Cur.inp; simp only [ht, ht2, hc, ht3]
      rw [hi, Cur.ins_err (s := ⟨_, 4⟩) (by simp), if_pos hs]
      right; exact ⟨by simp, rfl⟩
    have ht3 : Cur.take b ⟨p + 36 + 1, 0⟩ s = ((b.drop (p + 36 + 1)).take s, ⟨p + 36 + 1 + s, 0⟩) := by unfold Cur.take; rw [if_neg (by simp), if_neg hs]
    have hi : Cur.inp b ⟨p, 0⟩ = (⟨(b.drop p).take 32, Oct.val ((b.drop (p + 32)).take 4), (b.drop (p + 36 + 1)).take s⟩, ⟨p + 36 + 1 + s, 0⟩) := by
      unfold Cur.inp; simp only [ht, ht2, hc, ht3]
      rw [fill32_full (by rw [List.length_take, List.length_drop]; omega)]
    rw [hi, if_neg hs]
    exact Cur.ins_get b k (p + 36 + 1 + s) _ (by omega)
theorem Cur.outs_get (b : List UInt8) : ∀ (k p : Nat) (acc : List Out), p ≤ b.length →
    ((getOuts b k p acc).2.2 = 0 ∧ Cur.outs b k ⟨p, 0⟩ acc = ((getOuts b k p acc).2.1, ⟨(getOuts b k p acc).1, 0⟩)) ∨ ((getOuts b k p acc).2.2 ≠ 0 ∧ (Cur.outs b k ⟨p, 0⟩ acc).2.e = (getOuts b k p acc).2.2)
  | 0, p, acc, _ => .inl ⟨rfl, rfl⟩
  | k + 1, p, acc, hp => by
    unfold Cur.outs
    rw [if_neg (by simp)]
    unfold getOuts
    by_cases h8 : b.length < p + 8
    · have ht : Cur.take b ⟨p, 0⟩ 8 = ([], ⟨p, 4⟩) := by unfold Cur.take; rw [if_neg (by simp), if_pos h8]
      have hi : (Cur.out b ⟨p, 0⟩).2 = ⟨p, 4⟩ := by
        unfold Cur.out; simp only [ht, Cur.take_four]
      rw [hi, Cur.outs_err (s := ⟨_, 4⟩) (by simp), if_pos (by omega)]
      right; exact ⟨by simp, rfl⟩
    have ht : Cur.take b ⟨p, 0⟩ 8 = ((b.drop p).take 8, ⟨p + 8, 0⟩) := by unfold Cur.take; rw [if_neg (by simp), if_neg h8]
    by_cases h40 : b.length < p + 40
    · have ht2 : Cur.take b ⟨p + 8, 0⟩ 32 = ([], ⟨p + 8, 4⟩) := by unfold Cur.take; rw [if_neg (by simp), if_pos (by show b.length < p + 8 + 32; omega)]
      have hi : (Cur.out b ⟨p, 0⟩).2 = ⟨p + 8, 4⟩ := by unfold Cur.out; simp only [ht, ht2]
      rw [hi, Cur.outs_err (s := ⟨_, 4⟩) (by simp), if_pos h40]
      right; exact ⟨by simp, rfl⟩
    have ht2 : Cur.take b ⟨p + 8, 0⟩ 32 = ((b.drop (p + 8)).take 32, ⟨p + 40, 0⟩) := by unfold Cur.take; rw [if_neg (by simp), if_neg (by show ¬ b.length < p + 8 + 32; omega)]
    have hi : Cur.out b ⟨p, 0⟩ = (⟨Oct.val ((b.drop p).take 8), (b.drop (p + 8)).take 32⟩, ⟨p + 40, 0⟩) := by
      unfold Cur.out; simp only [ht, ht2]
      rw [fill32_full (by rw [List.length_take, List.length_drop]; omega)]
    rw [hi, if_neg h40]
    exact Cur.outs_get b k (p + 40) _ (by omega)
theorem getP_eq (b : List UInt8) : getP b = get b := by
  unfold getP get
  by_cases h4 : b.length < 4
  · have ht : Cur.take b ⟨0, 0⟩ 4 = ([], ⟨0, 4⟩) := by unfold Cur.take; rw [if_neg (by simp), if_pos (by show b.length < 0 + 4; omega)]
    simp only [ht, Cur.count_four]
    rw [Cur.ins_err (s := ⟨0, 4⟩) (by simp)]
    simp only [Cur.count_four]
    rw [Cur.outs_err (s := ⟨0, 4⟩) (by simp), if_pos (by simp), if_pos h4]
  have ht : Cur.take b ⟨0, 0⟩ 4 = (b.take 4, ⟨4, 0⟩) := by unfold Cur.take; rw [if_neg (by simp), if_neg (by show ¬ b.length < 0 + 4; omega)]; simp
  rw [if_neg h4]
  simp only [ht]
  rcases count_back (b := b.drop 4) (most := 8) (by omega) with ⟨c1, _, _⟩ | ⟨c1, c2, c3, c4, c5⟩
  · have hc : Cur.count b ⟨4, 0⟩ 8 = (0, ⟨4, (count (b.drop 4) 8).2.2⟩) := by unfold Cur.count; rw [if_neg (by simp), if_pos c1]
    simp only [hc]
    rw [Cur.ins_err (s := ⟨4, _⟩) c1]
    simp only
    rw [Cur.count_err (s := ⟨4, _⟩) c1]
    simp only
    rw [Cur.outs_err (s := ⟨4, _⟩) c1, if_pos (by exact c1), if_pos c1]
  have hc : Cur.count b ⟨4, 0⟩ 8 = ((count (b.drop 4) 8).1, ⟨4 + 1, 0⟩) := by unfold Cur.count; rw [if_neg (by simp), if_neg (by simp [c1])]; simp only [c3]
  rw [if_neg (show ¬ (count (b.drop 4) 8).2.2 ≠ 0 by simp [c1]), c3]
  simp only [hc]
  rw [List.length_drop] at c4
  generalize (count (b.drop 4) 8).1 = n1 at *
  unfold getRest
  rcases Cur.ins_get b n1 (4 + 1) [] (by omega) with ⟨g1, g2⟩ | ⟨g1, g2⟩
  · obtain ⟨_, _, _, _, k4, _, _⟩ := getIns_back b n1 (4 + 1) [] (by omega) g1
    rw [g2, if_neg (show ¬ (getIns b n1 (4 + 1) []).2.2 ≠ 0 by simp [g1])]
    generalize getIns b n1 (4 + 1) [] = ri at *
    simp only
    rcases count_back (b := b.drop ri.1) (most := 8) (by omega) with ⟨d1, _, _⟩ | ⟨d1, d2, d3, d4, d5⟩
    · have hd : Cur.count b ⟨ri.1, 0⟩ 8 = (0, ⟨ri.1, (count (b.drop ri.1) 8).2.2⟩) := by unfold Cur.count; rw [if_neg (by simp), if_pos d1]
      simp only [hd]
      rw [Cur.outs_err (s := ⟨ri.1, _⟩) d1, if_pos (show (⟨ri.1, (count (b.drop ri.1) 8).2.2⟩ : Cur).e ≠ 0 from d1), if_pos d1]
    have hd : Cur.count b ⟨ri.1, 0⟩ 8 = ((count (b.drop ri.1) 8).1, ⟨ri.1 + 1, 0⟩) := by unfold Cur.count; rw [if_neg (by simp), if_neg (by simp [d1])]; simp only [d3]
    rw [if_neg (show ¬ (count (b.drop ri.1) 8).2.2 ≠ 0 by simp [d1]), d3]
    simp only [hd]
    rw [List.length_drop] at d4
    generalize (count (b.drop ri.1) 8).1 = n2 at *
    rcases Cur.outs_get b n2 (ri.1 + 1) [] (by omega) with ⟨o1, o2⟩ | ⟨o1, o2⟩
    · rw [o2, if_neg (by simp), if_neg (by simp [o1])]
    · rw [if_pos (show (Cur.outs b n2 ⟨ri.1 + 1, 0⟩ []).2.e ≠ 0 by rw [o2]; exact o1), o2, if_pos o1]
  · rw [if_pos g1]
    have hne : (Cur.ins b n1 ⟨4 + 1, 0⟩ []).2.e ≠ 0 := by rw [g2]; exact g1
    rw [Cur.count_err hne]
    simp only
    rw [Cur.outs_err hne]
    simp only
    rw [if_pos hne, g2]
end Go.Proofs.YtanjlgkbjcienaaDoor.Txs
