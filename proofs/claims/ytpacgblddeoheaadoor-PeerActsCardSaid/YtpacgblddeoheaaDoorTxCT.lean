/- TxCT, merged: TxCur, TxTake. -/
import Derived.Test.YtpacgblddeoheaaDoorTxPut
import Derived.Test.YtpacgblddeoheaaDoorTxP
import Derived.Test.YtpacgblddeoheaaDoorOctRead
import Derived.Test.YtpacgblddeoheaaDoorTxBR
import Derived.Laws.CopyRow
import Derived.Laws.IdiomCopy
import Derived.Laws.CopyOwn
/- Package tx: a cursor, in plain Lean and walked. -/
namespace Go.Proofs.YtpacgblddeoheaaDoor.Txs
/-- where it reads, and what is wrong -/
structure Cur where
  p : Nat
  e : Int
def Cur.take (b : List UInt8) (s : Cur) (k : Nat) : List UInt8 × Cur :=
  if s.e ≠ 0 then ([], s) else if b.length < s.p + k then ([], ⟨s.p, 4⟩) else ((b.drop s.p).take k, ⟨s.p + k, 0⟩)
def Cur.count (b : List UInt8) (s : Cur) (most : Nat) : Nat × Cur :=
  if s.e ≠ 0 then (0, s)
  else if (Txs.count (b.drop s.p) most).2.2 ≠ 0 then (0, ⟨s.p, (Txs.count (b.drop s.p) most).2.2⟩)
  else ((Txs.count (b.drop s.p) most).1, ⟨s.p + (Txs.count (b.drop s.p) most).2.1, 0⟩)
def fill32 (l : List UInt8) : List UInt8 := l ++ List.replicate (32 - l.length) 0
/-- one input, read with whatever is wrong -/
def Cur.inp (b : List UInt8) (s : Cur) : In × Cur :=
  (⟨fill32 (s.take b 32).1, Oct.val ((s.take b 32).2.take b 4).1, ((((s.take b 32).2.take b 4).2.count b 64).2.take b (((s.take b 32).2.take b 4).2.count b 64).1).1⟩,
    ((((s.take b 32).2.take b 4).2.count b 64).2.take b (((s.take b 32).2.take b 4).2.count b 64).1).2)
def Cur.out (b : List UInt8) (s : Cur) : Out × Cur :=
  (⟨Oct.val (s.take b 8).1, fill32 ((s.take b 8).2.take b 32).1⟩, ((s.take b 8).2.take b 32).2)
def Cur.ins (b : List UInt8) : Nat → Cur → List In → List In × Cur
  | 0, s, acc => (acc, s)
  | k + 1, s, acc => if s.e ≠ 0 then (acc, s) else Cur.ins b k (s.inp b).2 (acc ++ [(s.inp b).1])
def Cur.outs (b : List UInt8) : Nat → Cur → List Out → List Out × Cur
  | 0, s, acc => (acc, s)
  | k + 1, s, acc => if s.e ≠ 0 then (acc, s) else Cur.outs b k (s.out b).2 (acc ++ [(s.out b).1])
theorem Cur.take_le {b : List UInt8} {s : Cur} {k : Nat} (h : s.p ≤ b.length) : (s.take b k).2.p ≤ b.length := by
  unfold Cur.take; split
  · exact h
  · split
    · exact h
    · show s.p + k ≤ _; omega
theorem Cur.take_len (b : List UInt8) (s : Cur) (k : Nat) : (s.take b k).1.length = 0 ∨ (s.take b k).1.length = k := by
  unfold Cur.take; split
  · exact .inl rfl
  · split
    · exact .inl rfl
    · right; simp only [List.length_take, List.length_drop]; omega
theorem Cur.count_le {b : List UInt8} {s : Cur} {m : Nat} (hm : m < 253) (h : s.p ≤ b.length) : (s.count b m).2.p ≤ b.length ∧ (s.count b m).1 ≤ m := by
  unfold Cur.count; split
  · exact ⟨h, Nat.zero_le _⟩
  · rcases count_back (b := b.drop s.p) hm with ⟨h1, _, _⟩ | ⟨h1, h2, h3, h4, _⟩
    · rw [if_pos h1]; exact ⟨h, Nat.zero_le _⟩
    · rw [if_neg (by simp [h1])]
      rw [List.length_drop] at h4
      exact ⟨by show s.p + _ ≤ _; omega, h2⟩
theorem Cur.inp_le {b : List UInt8} {s : Cur} (h : s.p ≤ b.length) : (s.inp b).2.p ≤ b.length :=
  Cur.take_le (Cur.count_le (by omega) (Cur.take_le (Cur.take_le h))).1
theorem Cur.out_le {b : List UInt8} {s : Cur} (h : s.p ≤ b.length) : (s.out b).2.p ≤ b.length := Cur.take_le (Cur.take_le h)
theorem fill32_len {l : List UInt8} (h : l.length ≤ 32) : (fill32 l).length = 32 := by unfold fill32; rw [List.length_append, List.length_replicate]; omega
theorem fill32_full {l : List UInt8} (h : l.length = 32) : fill32 l = l := by unfold fill32; rw [h]; simp
theorem Cur.inp_ok (b : List UInt8) (s : Cur) : (s.inp b).1.Ok := by
  refine ⟨fill32_len (by rcases Cur.take_len b s 32 with h | h <;> omega), ?_⟩
  show Oct.val _ < _
  have := Oct.val_lt ((s.take b 32).2.take b 4).1
  rcases Cur.take_len b (s.take b 32).2 4 with h | h
  · rw [h] at this; have : (256 : Nat) ^ 0 = 1 := rfl; omega
  · rw [h] at this; exact this
theorem Cur.out_ok (b : List UInt8) (s : Cur) : (s.out b).1.Ok := by
  refine ⟨?_, fill32_len (by rcases Cur.take_len b (s.take b 8).2 32 with h | h <;> omega)⟩
  show Oct.val _ < _
  have := Oct.val_lt (s.take b 8).1
  rcases Cur.take_len b s 8 with h | h
  · rw [h] at this; have : (256 : Nat) ^ 0 = 1 := rfl; omega
  · rw [h] at this; exact this
/-- what the program reads -/
def getP (b : List UInt8) : Tx × Nat × Int :=
  let a := Cur.take b ⟨0, 0⟩ 4
  let n := a.2.count b 8
  let i := Cur.ins b n.1 n.2 []
  let m := i.2.count b 8
  let o := Cur.outs b m.1 m.2 []
  if o.2.e ≠ 0 then (none, 0, o.2.e) else (⟨Oct.val a.1, i.1, o.1⟩, o.2.p, 0)
theorem Cur.ins_err {b : List UInt8} {s : Cur} (h : s.e ≠ 0) (k : Nat) (acc : List In) : Cur.ins b k s acc = (acc, s) := by
  cases k with
  | zero => rfl
  | succ k => unfold Cur.ins; rw [if_pos h]
theorem Cur.outs_err {b : List UInt8} {s : Cur} (h : s.e ≠ 0) (k : Nat) (acc : List Out) : Cur.outs b k s acc = (acc, s) := by
  cases k with
  | zero => rfl
  | succ k => unfold Cur.outs; rw [if_pos h]
theorem Cur.take_err {b : List UInt8} {s : Cur} (h : s.e ≠ 0) (k : Nat) : s.take b k = ([], s) := by unfold Cur.take; rw [if_pos h]
theorem Cur.count_err {b : List UInt8} {s : Cur} (h : s.e ≠ 0) (k : Nat) : s.count b k = (0, s) := by unfold Cur.count; rw [if_pos h]
theorem Cur.take_four (b : List UInt8) (p k : Nat) : Cur.take b ⟨p, 4⟩ k = ([], ⟨p, 4⟩) := Cur.take_err (by simp) k
theorem Cur.count_four (b : List UInt8) (p k : Nat) : Cur.count b ⟨p, 4⟩ k = (0, ⟨p, 4⟩) := Cur.count_err (by simp) k
theorem Cur.ins_get (b : List UInt8) : ∀ (k p : Nat) (acc : List In), p ≤ b.length →
    ((getIns b k p acc).2.2 = 0 ∧ Cur.ins b k ⟨p, 0⟩ acc = ((getIns b k p acc).2.1, ⟨(getIns b k p acc).1, 0⟩)) ∨ ((getIns b k p acc).2.2 ≠ 0 ∧ (Cur.ins b k ⟨p, 0⟩ acc).2.e = (getIns b k p acc).2.2)
  | 0, p, acc, _ => .inl ⟨rfl, rfl⟩
  | k + 1, p, acc, hp => by
    unfold Cur.ins
    rw [if_neg (by simp)]
    unfold getIns
    by_cases h32 : b.length < p + 32
    · have ht : Cur.take b ⟨p, 0⟩ 32 = ([], ⟨p, 4⟩) := by unfold Cur.take; rw [if_neg (by simp), if_pos h32]
      have hi : (Cur.inp b ⟨p, 0⟩).2 = ⟨p, 4⟩ := by
        unfold Cur.inp; simp only [ht, Cur.take_four, Cur.count_four]
      rw [hi, Cur.ins_err (s := ⟨_, 4⟩) (by simp), if_pos (by omega)]
      right; exact ⟨by simp, rfl⟩
    have ht : Cur.take b ⟨p, 0⟩ 32 = ((b.drop p).take 32, ⟨p + 32, 0⟩) := by unfold Cur.take; rw [if_neg (by simp), if_neg h32]
    by_cases h36 : b.length < p + 36
    · have ht2 : Cur.take b ⟨p + 32, 0⟩ 4 = ([], ⟨p + 32, 4⟩) := by unfold Cur.take; rw [if_neg (by simp), if_pos (by show b.length < p + 32 + 4; omega)]
      have hi : (Cur.inp b ⟨p, 0⟩).2 = ⟨p + 32, 4⟩ := by
        unfold Cur.inp; simp only [ht, ht2, Cur.take_four, Cur.count_four]
      rw [hi, Cur.ins_err (s := ⟨_, 4⟩) (by simp), if_pos h36]
      right; exact ⟨by simp, rfl⟩
    have ht2 : Cur.take b ⟨p + 32, 0⟩ 4 = ((b.drop (p + 32)).take 4, ⟨p + 36, 0⟩) := by unfold Cur.take; rw [if_neg (by simp), if_neg (by show ¬ b.length < p + 32 + 4; omega)]
    rw [if_neg h36]
    rcases count_back (b := b.drop (p + 36)) (most := 64) (by omega) with ⟨c1, _, _⟩ | ⟨c1, c2, c3, c4, c5⟩
    · have hc : Cur.count b ⟨p + 36, 0⟩ 64 = (0, ⟨p + 36, (Txs.count (b.drop (p + 36)) 64).2.2⟩) := by unfold Cur.count; rw [if_neg (by simp), if_pos c1]
      have hi : (Cur.inp b ⟨p, 0⟩).2 = ⟨p + 36, (Txs.count (b.drop (p + 36)) 64).2.2⟩ := by
        unfold Cur.inp; simp only [ht, ht2, hc]
        rw [Cur.take_err (s := ⟨p + 36, _⟩) c1]
      rw [hi, Cur.ins_err (s := ⟨p + 36, _⟩) c1, if_pos c1]
      right; exact ⟨c1, rfl⟩
    rw [if_neg (by simp [c1])]
    rw [List.length_drop] at c4
    have hc : Cur.count b ⟨p + 36, 0⟩ 64 = ((Txs.count (b.drop (p + 36)) 64).1, ⟨p + 36 + 1, 0⟩) := by unfold Cur.count; rw [if_neg (by simp), if_neg (by simp [c1])]; simp only [c3]
    rw [c3]
    generalize (Txs.count (b.drop (p + 36)) 64).1 = s at *
    by_cases hs : b.length < p + 36 + 1 + s
    · have ht3 : Cur.take b ⟨p + 36 + 1, 0⟩ s = ([], ⟨p + 36 + 1, 4⟩) := by unfold Cur.take; rw [if_neg (by simp), if_pos hs]
      have hi : (Cur.inp b ⟨p, 0⟩).2 = ⟨p + 36 + 1, 4⟩ := by unfold Cur.inp; simp only [ht, ht2, hc, ht3]
      rw [hi, Cur.ins_err (s := ⟨_, 4⟩) (by simp), if_pos hs]
      right; exact ⟨by simp, rfl⟩
    have ht3 : Cur.take b ⟨p + 36 + 1, 0⟩ s = ((b.drop (p + 36 + 1)).take s, ⟨p + 36 + 1 + s, 0⟩) := by unfold Cur.take; rw [if_neg (by simp), if_neg hs]
    have hi : Cur.inp b ⟨p, 0⟩ = (⟨(b.drop p).take 32, Oct.val ((b.drop (p + 32)).take 4), (b.drop (p + 36 + 1)).take s⟩, ⟨p + 36 + 1 + s, 0⟩) := by
      unfold Cur.inp; simp only [ht, ht2, hc, ht3]
      rw [fill32_full (by rw [List.length_take, List.length_drop]; omega)]
    rw [hi, if_neg hs]
    exact Cur.ins_get b k (p + 36 + 1 + s) _ (by omega)
theorem Cur.outs_get (b : List UInt8) : ∀ (k p : Nat) (acc : List Out), p ≤ b.length →
    ((getOuts b k p acc).2.2 = 0 ∧ Cur.outs b k ⟨p, 0⟩ acc = ((getOuts b k p acc).2.1, ⟨(getOuts b k p acc).1, 0⟩)) ∨ ((getOuts b k p acc).2.2 ≠ 0 ∧ (Cur.outs b k ⟨p, 0⟩ acc).2.e = (getOuts b k p acc).2.2)
  | 0, p, acc, _ => .inl ⟨rfl, rfl⟩
  | k + 1, p, acc, hp => by
    unfold Cur.outs
    rw [if_neg (by simp)]
    unfold getOuts
    by_cases h8 : b.length < p + 8
    · have ht : Cur.take b ⟨p, 0⟩ 8 = ([], ⟨p, 4⟩) := by unfold Cur.take; rw [if_neg (by simp), if_pos h8]
      have hi : (Cur.out b ⟨p, 0⟩).2 = ⟨p, 4⟩ := by
        unfold Cur.out; simp only [ht, Cur.take_four]
      rw [hi, Cur.outs_err (s := ⟨_, 4⟩) (by simp), if_pos (by omega)]
      right; exact ⟨by simp, rfl⟩
    have ht : Cur.take b ⟨p, 0⟩ 8 = ((b.drop p).take 8, ⟨p + 8, 0⟩) := by unfold Cur.take; rw [if_neg (by simp), if_neg h8]
    by_cases h40 : b.length < p + 40
    · have ht2 : Cur.take b ⟨p + 8, 0⟩ 32 = ([], ⟨p + 8, 4⟩) := by unfold Cur.take; rw [if_neg (by simp), if_pos (by show b.length < p + 8 + 32; omega)]
      have hi : (Cur.out b ⟨p, 0⟩).2 = ⟨p + 8, 4⟩ := by unfold Cur.out; simp only [ht, ht2]
      rw [hi, Cur.outs_err (s := ⟨_, 4⟩) (by simp), if_pos h40]
      right; exact ⟨by simp, rfl⟩
    have ht2 : Cur.take b ⟨p + 8, 0⟩ 32 = ((b.drop (p + 8)).take 32, ⟨p + 40, 0⟩) := by unfold Cur.take; rw [if_neg (by simp), if_neg (by show ¬ b.length < p + 8 + 32; omega)]
    have hi : Cur.out b ⟨p, 0⟩ = (⟨Oct.val ((b.drop p).take 8), (b.drop (p + 8)).take 32⟩, ⟨p + 40, 0⟩) := by
      unfold Cur.out; simp only [ht, ht2]
      rw [fill32_full (by rw [List.length_take, List.length_drop]; omega)]
    rw [hi, if_neg h40]
    exact Cur.outs_get b k (p + 40) _ (by omega)
theorem getP_eq (b : List UInt8) : getP b = get b := by
  unfold getP get
  by_cases h4 : b.length < 4
  · have ht : Cur.take b ⟨0, 0⟩ 4 = ([], ⟨0, 4⟩) := by unfold Cur.take; rw [if_neg (by simp), if_pos (by show b.length < 0 + 4; omega)]
    simp only [ht, Cur.count_four]
    rw [Cur.ins_err (s := ⟨0, 4⟩) (by simp)]
    simp only [Cur.count_four]
    rw [Cur.outs_err (s := ⟨0, 4⟩) (by simp), if_pos (by simp), if_pos h4]
  have ht : Cur.take b ⟨0, 0⟩ 4 = (b.take 4, ⟨4, 0⟩) := by unfold Cur.take; rw [if_neg (by simp), if_neg (by show ¬ b.length < 0 + 4; omega)]; simp
  rw [if_neg h4]
  simp only [ht]
  rcases count_back (b := b.drop 4) (most := 8) (by omega) with ⟨c1, _, _⟩ | ⟨c1, c2, c3, c4, c5⟩
  · have hc : Cur.count b ⟨4, 0⟩ 8 = (0, ⟨4, (count (b.drop 4) 8).2.2⟩) := by unfold Cur.count; rw [if_neg (by simp), if_pos c1]
    simp only [hc]
    rw [Cur.ins_err (s := ⟨4, _⟩) c1]
    simp only
    rw [Cur.count_err (s := ⟨4, _⟩) c1]
    simp only
    rw [Cur.outs_err (s := ⟨4, _⟩) c1, if_pos (by exact c1), if_pos c1]
  have hc : Cur.count b ⟨4, 0⟩ 8 = ((count (b.drop 4) 8).1, ⟨4 + 1, 0⟩) := by unfold Cur.count; rw [if_neg (by simp), if_neg (by simp [c1])]; simp only [c3]
  rw [if_neg (show ¬ (count (b.drop 4) 8).2.2 ≠ 0 by simp [c1]), c3]
  simp only [hc]
  rw [List.length_drop] at c4
  generalize (count (b.drop 4) 8).1 = n1 at *
  unfold getRest
  rcases Cur.ins_get b n1 (4 + 1) [] (by omega) with ⟨g1, g2⟩ | ⟨g1, g2⟩
  · obtain ⟨_, _, _, _, k4, _, _⟩ := getIns_back b n1 (4 + 1) [] (by omega) g1
    rw [g2, if_neg (show ¬ (getIns b n1 (4 + 1) []).2.2 ≠ 0 by simp [g1])]
    generalize getIns b n1 (4 + 1) [] = ri at *
    simp only
    rcases count_back (b := b.drop ri.1) (most := 8) (by omega) with ⟨d1, _, _⟩ | ⟨d1, d2, d3, d4, d5⟩
    · have hd : Cur.count b ⟨ri.1, 0⟩ 8 = (0, ⟨ri.1, (count (b.drop ri.1) 8).2.2⟩) := by unfold Cur.count; rw [if_neg (by simp), if_pos d1]
      simp only [hd]
      rw [Cur.outs_err (s := ⟨ri.1, _⟩) d1, if_pos (show (⟨ri.1, (count (b.drop ri.1) 8).2.2⟩ : Cur).e ≠ 0 from d1), if_pos d1]
    have hd : Cur.count b ⟨ri.1, 0⟩ 8 = ((count (b.drop ri.1) 8).1, ⟨ri.1 + 1, 0⟩) := by unfold Cur.count; rw [if_neg (by simp), if_neg (by simp [d1])]; simp only [d3]
    rw [if_neg (show ¬ (count (b.drop ri.1) 8).2.2 ≠ 0 by simp [d1]), d3]
    simp only [hd]
    rw [List.length_drop] at d4
    generalize (count (b.drop ri.1) 8).1 = n2 at *
    rcases Cur.outs_get b n2 (ri.1 + 1) [] (by omega) with ⟨o1, o2⟩ | ⟨o1, o2⟩
    · rw [o2, if_neg (by simp), if_neg (by simp [o1])]
    · rw [if_pos (show (Cur.outs b n2 ⟨ri.1 + 1, 0⟩ []).2.e ≠ 0 by rw [o2]; exact o1), o2, if_pos o1]
  · rw [if_pos g1]
    have hne : (Cur.ins b n1 ⟨4 + 1, 0⟩ []).2.e ≠ 0 := by rw [g2]; exact g1
    rw [Cur.count_err hne]
    simp only
    rw [Cur.outs_err hne]
    simp only
    rw [if_pos hne, g2]
end Go.Proofs.YtpacgblddeoheaaDoor.Txs
/- Package tx: the cursor's methods. -/
namespace Go.Proofs.YtpacgblddeoheaaDoor.T7
open Go.RowKit Go.Deep
set_option linter.unusedVariables false
set_option linter.unusedSimpArgs false
set_option maxRecDepth 100000
attribute [local go_sem ↓] Go.wp_at_zero Go.wp_at_succ

def curArr (A : Option Addr) (n c : Nat) (s : Txs.Cur) : Array Value := #[.slice A n c, .int .i64 (s.p : Int), .int .i64 s.e]
/-- a cursor that lies in block g, over bytes that lie below it -/
structure IsCur (w : World) (g B : Nat) (A : Option Addr) (n c : Nat) (b : List UInt8) (s : Txs.Cur) : Prop where
  bk : Bk w g 192 (curArr A n c s)
  at_ : BytesAt w B A b
  le : s.p ≤ n
theorem IsCur.kp {S : Nat → Prop} {w w' : World} {g B : Nat} {A : Option Addr} {n c : Nat} {b : List UInt8} {s : Txs.Cur} (h : IsCur w g B A n c b s) (hk : Kp S w w') (hg : ¬ S g) (hB : ∀ i, i < B → ¬ S i) (hs : B ≤ w.heap.size) : IsCur w' g B A n c b s :=
  ⟨h.bk.kp hk hg, At.kp h.at_ hk hs hB, h.le⟩
/-- what never changes of it -/
structure CurOk (A : Option Addr) (n c g B : Nat) (b : List UInt8) : Prop where
  len : b.length = n
  cap : n ≤ c
  max : c ≤ maxLen
  small : n ≤ 140737488351232
  low : B ≤ g
/-- what take answers -/
def TakeOut (A : Option Addr) (n c g B : Nat) (b : List UInt8) (r : List UInt8 × Txs.Cur) (w w' : World) (e : Ending) : Prop :=
  ∃ A' c', e = .returned (.slice A' r.1.length c') ∧ BytesAt w' B A' r.1 ∧ IsCur w' g B A n c b r.2 ∧ Kp (fun i => i = g) w w'
set_option maxHeartbeats 1000000 in
theorem take_any {A : Option Addr} {n c g B : Nat} {b : List UInt8} (ok : CurOk A n c g B b) (s : Txs.Cur) (k : Nat) (hk : k ≤ 1000000) (hlive : 0 < n ∨ 0 < k ∨ s.e ≠ 0) (w : World) (h : IsCur w g B A n c b s) :
    Calls Tryd.prog 103 #[.pointer (some ⟨g, 0, none⟩), .int .i64 (k : Int)] w fun e w' =>
      TakeOut A n c g B b (s.take b k) w w' e := by
  obtain ⟨hl, hc, hm, hn, hB⟩ := ok
  obtain ⟨hb, hat, hp⟩ := h
  obtain ⟨p, e⟩ := s
  have hlt := hb.lt
  have c0 : w.cell? ⟨g, 0, none⟩ = some (.slice A n c) := (hb.cell 0).trans rfl
  have c1 : w.cell? ⟨g, 1, none⟩ = some (.int .i64 (p : Int)) := (hb.cell 1).trans rfl
  have c2 : w.cell? ⟨g, 2, none⟩ = some (.int .i64 e) := (hb.cell 2).trans rfl
  have fr1 := hb.frozen 1
  have fr2 := hb.frozen 2
  simp only at hp
  unfold maxLen at hm
  have HB := Lib.hid hb
  have HAT := Lib.hid hat
  have HLN := Lib.hid hl
  by_cases he : e = 0
  · subst he
    by_cases hs : n < p + k
    · have hr : Txs.Cur.take b ⟨p, 0⟩ k = ([], ⟨p, 4⟩) := by unfold Txs.Cur.take; rw [if_neg (by simp), if_pos (by rw [hl]; exact hs)]
      rw [hr]
      have hs' : (n : Int) - (p : Int) < (k : Int) := by omega
      clear hb hat hl hr
      go_enter Tryd.func103, Tryd.ntmps103
      go_wp2_with fail
      go_quiet (fail)
      go_wp2_with fail
      go_ret
      have hk2 : Kp (fun i => i = g) w ((w.drewN nq).setCell ⟨g, 2, none⟩ (.int .i64 4)) := ((Kp.refl (fun i => i = g) w).drewN nq).setCell (p := ⟨g, 2, none⟩) (fun _ => rfl) _
      refine ⟨none, 0, rfl, fun i hi => by simp at hi, ⟨?_, At.kp HAT.out hk2 (by omega) (by intro i hi; omega), hp⟩, hk2⟩
      exact (HB.out.drewN nq).set 2 _
    · have hr : Txs.Cur.take b ⟨p, 0⟩ k = ((b.drop p).take k, ⟨p + k, 0⟩) := by unfold Txs.Cur.take; rw [if_neg (by simp), if_neg (by rw [hl]; exact hs)]
      rw [hr]
      have hs' : ¬ (n : Int) - (p : Int) < (k : Int) := by omega
      have hrl : ((b.drop p).take k).length = k := by rw [List.length_take, List.length_drop]; omega
      have HRL := Lib.hid hrl
      have hn0 : 0 < n := by rcases hlive with h | h | h <;> first | omega | exact absurd rfl h
      obtain ⟨q, off, rfl, -, -⟩ := hat.cell (i := 0) (by omega)
      obtain ⟨o', ho'⟩ : ∃ o', o' = if c = p then off else off + p := ⟨_, rfl⟩
      have hat' : BytesAt w B (some ⟨q, o', none⟩) ((b.drop p).take k) := by
        by_cases e : c = p
        · have : (b.drop p).take k = [] := List.eq_nil_of_length_eq_zero (by rw [hrl]; omega)
          rw [this]; exact fun i hi => by simp at hi
        · rw [ho', if_neg e]; exact (hat.drop p).take k
      have HAT' := Lib.hid hat'
      have hif : (if c = p then some (⟨q, off, none⟩ : Addr) else some ⟨q, off + p, none⟩) = some ⟨q, o', none⟩ := by rw [ho']; split <;> rfl
      have b1 : (p : Int) + (k : Int) - (k : Int) = (p : Int) := by omega
      have b2 : (p : Int) + (k : Int) ≤ (c : Int) := by omega
      clear hb hat hl hr hat' ho' hrl
      go_enter Tryd.func103, Tryd.ntmps103
      go_wp2_with fail
      go_quiet (fail)
      go_wp2_with fail
      obtain ⟨w2, hw2⟩ : ∃ w2, w2 = (w.drewN nq).setCell ⟨g, 1, none⟩ (.int .i64 ((p : Int) + (k : Int))) := ⟨_, rfl⟩
      have HK2 := Lib.hid (show Kp (fun i => i = g) w w2 by rw [hw2]; exact ((Kp.refl (fun i => i = g) w).drewN nq).setCell (p := ⟨g, 1, none⟩) (fun _ => rfl) _)
      have HB2 := Lib.hid (show Bk w2 g 192 (curArr (some ⟨q, off, none⟩) n c ⟨p + k, 0⟩) by rw [hw2]; exact (HB.out.drewN nq).set 1 _)
      have d0 : w2.cell? ⟨g, 0, none⟩ = some (.slice (some ⟨q, off, none⟩) n c) := (HB2.out.cell 0).trans rfl
      have d1 : w2.cell? ⟨g, 1, none⟩ = some (.int .i64 ((p : Int) + (k : Int))) := (HB2.out.cell 1).trans rfl
      rw [← hw2]
      clear hw2 c0 c1 c2
      go_quiet (fail)
      go_wp2_with fail
      go_ret
      rw [show p + k - p = k by omega]
      refine ⟨some ⟨q, o', none⟩, c - p, congrArg (fun x => Ending.returned (.slice (some ⟨q, o', none⟩) x (c - p))) HRL.out.symm, At.kp HAT'.out (HK2.out.drewN _) (by omega) (by intro i hi; omega), ⟨HB2.out.drewN _, At.kp HAT.out (HK2.out.drewN _) (by omega) (by intro i hi; omega), by show p + k ≤ n; omega⟩, HK2.out.drewN _⟩
  · have hr : Txs.Cur.take b ⟨p, e⟩ k = ([], ⟨p, e⟩) := Txs.Cur.take_err (by exact he) k
    rw [hr]
    have he' : (e != 0) = true := by rw [bne_iff_ne]; exact he
    clear hb hat hl hr he
    go_enter Tryd.func103, Tryd.ntmps103
    go_wp2_with fail
    go_ret
    exact ⟨none, 0, rfl, fun i hi => by simp at hi, ⟨HB.out, HAT.out, hp⟩, Kp.refl _ _⟩
/-- what a cursor's numbers need -/
theorem number_any {A : Option Addr} {n c g B : Nat} {b : List UInt8} (ok : CurOk A n c g B b) (s : Txs.Cur) (k : Nat) (hk : k = 1 ∨ k = 2 ∨ k = 4 ∨ k = 8) (w : World) (h : IsCur w g B A n c b s) :
    Calls Tryd.prog 100 #[.pointer (some ⟨g, 0, none⟩), .int .i64 (k : Int)] w fun e w' =>
      e = .returned (.int .u64 (Oct.val (s.take b k).1 : Nat)) ∧ IsCur w' g B A n c b (s.take b k).2 ∧ Kp (fun i => i = g) w w' := by
  have HT := Lib.hid (take_any ok s k (by omega) (by omega) w h)
  have hlen := Txs.Cur.take_len b s k
  have HV := Lib.hid (Oct.val_lt (s.take b k).1)
  generalize s.take b k = r at *
  obtain ⟨l, s'⟩ := r
  simp only at HT hlen HV ⊢
  clear h
  go_enter Tryd.func100, Tryd.ntmps100
  go_wp2_with fail
  refine HT.out.mono ?_
  rintro e w1 ⟨A', c', rfl, hat, hc, hkp⟩
  have HC := Lib.hid hc
  have HK := Lib.hid hkp
  have HAT := Lib.hid hat
  clear hc hkp hat HT
  rcases hlen with h0 | h0
  · have hnil : l = [] := List.eq_nil_of_length_eq_zero h0
    subst hnil
    clear h0
    go_wp2_with fail
    refine (oget_no A' 0 c' (by omega) _).mono ?_
    rintro e w2 ⟨rfl, rfl⟩
    go_wp2_with fail
    go_ret
    exact ⟨rfl, HC.out, HK.out⟩
  · have hw : l.length = 1 ∨ l.length = 2 ∨ l.length = 4 ∨ l.length = 8 := by omega
    have HG := Lib.hid (oget_yes A' c' B l hw w1 HAT.out)
    generalize l.length = ll at *
    clear h0 hw
    go_wp2_with fail
    refine HG.out.mono ?_
    rintro e w2 ⟨rfl, rfl⟩
    go_wp2_with fail
    go_ret
    exact ⟨rfl, HC.out, HK.out⟩
theorem read_bounds (b : List UInt8) : (Oct.read b).1 < 18446744073709551616 ∧ (Oct.read b).2.1 ≤ 9 := by
  rcases Oct.read_back b with ⟨_, h2, h3, _⟩ | ⟨_, h2, h3, _⟩
  · rw [h2, h3]; omega
  · have := Oct.size_pos (Oct.read b).1; rw [h3]; omega
set_option maxHeartbeats 1000000 in
theorem count_any {A : Option Addr} {n c g B : Nat} {b : List UInt8} (ok : CurOk A n c g B b) (s : Txs.Cur) (k : Nat) (hk : k < 253) (hlive : 0 < n ∨ s.e ≠ 0) (w : World) (h : IsCur w g B A n c b s) :
    Calls Tryd.prog 101 #[.pointer (some ⟨g, 0, none⟩), .int .i64 (k : Int)] w fun e w' =>
      e = .returned (.int .i64 ((s.count b k).1 : Int)) ∧ IsCur w' g B A n c b (s.count b k).2 ∧ Kp (fun i => i = g) w w' := by
  obtain ⟨hl, hc, hm, hn, hB⟩ := ok
  obtain ⟨hb, hat, hp⟩ := h
  obtain ⟨p, e⟩ := s
  have hlt := hb.lt
  have c0 : w.cell? ⟨g, 0, none⟩ = some (.slice A n c) := (hb.cell 0).trans rfl
  have c1 : w.cell? ⟨g, 1, none⟩ = some (.int .i64 (p : Int)) := (hb.cell 1).trans rfl
  have c2 : w.cell? ⟨g, 2, none⟩ = some (.int .i64 e) := (hb.cell 2).trans rfl
  have fr1 := hb.frozen 1
  have fr2 := hb.frozen 2
  simp only at hp
  have HM := Lib.hid hm
  unfold maxLen at hm
  have HB := Lib.hid hb
  have HAT := Lib.hid hat
  have HLN := Lib.hid hl
  by_cases he : e = 0
  · subst he
    have hn0 : 0 < n := by rcases hlive with h | h <;> first | omega | exact absurd rfl h
    obtain ⟨q, off, rfl, -, -⟩ := hat.cell (i := 0) (by omega)
    obtain ⟨o', ho'⟩ : ∃ o', o' = if c = p then off else off + p := ⟨_, rfl⟩
    have hat' : BytesAt w B (some ⟨q, o', none⟩) (b.drop p) := by
      by_cases e : c = p
      · have : b.drop p = [] := List.drop_of_length_le (by omega)
        rw [this]; exact fun i hi => by simp at hi
      · rw [ho', if_neg e]; exact hat.drop p
    have hif : (if c = p then some (⟨q, off, none⟩ : Addr) else some ⟨q, off + p, none⟩) = some ⟨q, o', none⟩ := by rw [ho']; split <;> rfl
    have hrd := fun i => oread_any (some ⟨q, o', none⟩) (n - p) (c - p) B (b.drop p) (w.drewN i) (by rw [List.length_drop, hl]) (by omega) (by unfold maxLen; omega) (At.below hat' (below_drewN (Below.refl _ _) i))
    obtain ⟨rb1, rb2⟩ := read_bounds (b.drop p)
    have HRB := Lib.hid rb1
    have hcase : ∃ x m r, Oct.read (b.drop p) = (x, m, r) ∧ (r ≠ 0 ∨ (r = 0 ∧ m ≤ n - p)) := by
      refine ⟨_, _, _, rfl, ?_⟩
      rcases Oct.read_back (b.drop p) with ⟨h1, _⟩ | ⟨h1, _, _, h4, _⟩
      · exact .inl h1
      · rw [List.length_drop, hl] at h4; exact .inr ⟨h1, h4⟩
    obtain ⟨x, m, r, hx, hxc⟩ := hcase
    have hV := readV_of hx
    rw [hV] at hrd
    have HRD := Lib.hid (fun i => (hrd i).mono (fun e w' h => (⟨h.1, h.2.symm⟩ : e = _ ∧ w' = w.drewN i)))
    have HC : Hid (Txs.Cur.count b ⟨p, 0⟩ k = if r ≠ 0 then (0, ⟨p, r⟩) else if k < x then (0, ⟨p, 5⟩) else (x, ⟨p + m, 0⟩)) := Lib.hid (by
      unfold Txs.Cur.count Txs.count
      rw [if_neg (by simp), hx]
      simp only
      by_cases hr : r = 0
      · subst hr
        by_cases hk : k < x
        · simp [hk]
        · simp [hk]
      · simp [hr])
    rw [hx] at rb1 rb2
    simp only at rb2
    clear hb hat hl hat' ho' hrd hx hV rb1 HRB hlive
    go_enter Tryd.func101, Tryd.ntmps101
    go_wp2_with fail
    go_quiet ((go_at_call 91; exact Calls.quiet_of_same (HRD.out _)))
    have HBN := Lib.hid (HB.out.drewN nq)
    have HKN := Lib.hid ((Kp.refl (fun i => i = g) w).drewN nq)
    have g2 := HBN.out.frozen 2
    have g1 := HBN.out.frozen 1
    have d1 : (w.drewN nq).cell? ⟨g, 1, none⟩ = some (.int .i64 (p : Int)) := (HBN.out.cell 1).trans rfl
    have d2 : (w.drewN nq).cell? ⟨g, 2, none⟩ = some (.int .i64 0) := (HBN.out.cell 2).trans rfl
    obtain ⟨w1, hw1⟩ : ∃ w1, w1 = w.drewN nq := ⟨_, rfl⟩
    rw [← hw1] at HBN HKN g1 g2 d1 d2 ⊢
    clear hw1 c0 c1 c2 fr1 fr2 HRD
    by_cases hr : r = 0
    · subst hr
      have hmn : m ≤ n - p := by rcases hxc with h | h <;> first | exact absurd rfl h | exact h.2
      clear hxc
      by_cases hkx : k < x
      · have hkx' : (k : Int) < (x : Int) := by omega
        have HC2 := Lib.hid (show Txs.Cur.count b ⟨p, 0⟩ k = (0, ⟨p, 5⟩) by rw [HC.out]; simp [hkx])
        clear hkx HC
        go_wp2_with fail
        go_ret
        rw [HC2.out]
        have hk2 : Kp (fun i => i = g) w (w1.setCell ⟨g, 2, none⟩ (.int .i64 5)) := HKN.out.setCell (p := ⟨g, 2, none⟩) (fun _ => rfl) _
        exact ⟨rfl, ⟨HBN.out.set 2 _, At.kp HAT.out hk2 (by omega) (by intro i hi; omega), hp⟩, hk2⟩
      · have hkx' : ¬ (k : Int) < (x : Int) := by omega
        have hxk : (x : Int) ≤ 252 := by omega
        have HC2 := Lib.hid (show Txs.Cur.count b ⟨p, 0⟩ k = (x, ⟨p + m, 0⟩) by rw [HC.out]; simp [hkx])
        clear HC
        go_wp2_with fail
        go_ret
        rw [HC2.out]
        have hk2 : Kp (fun i => i = g) w (w1.setCell ⟨g, 1, none⟩ (.int .i64 ((p : Int) + (m : Int)))) := HKN.out.setCell (p := ⟨g, 1, none⟩) (fun _ => rfl) _
        exact ⟨rfl, ⟨HBN.out.set 1 _, At.kp HAT.out hk2 (by omega) (by intro i hi; omega), by show p + m ≤ n; omega⟩, hk2⟩
    · have hr1 : (r == 0) = false := by rw [beq_eq_false_iff_ne]; exact hr
      have hr2 : (r != 0) = true := by rw [bne_iff_ne]; exact hr
      have HC2 := Lib.hid (show Txs.Cur.count b ⟨p, 0⟩ k = (0, ⟨p, r⟩) by rw [HC.out]; simp [hr])
      clear hr HC hxc
      go_wp2_with fail
      go_ret
      rw [HC2.out]
      have hk2 : Kp (fun i => i = g) w (w1.setCell ⟨g, 2, none⟩ (.int .i64 r)) := HKN.out.setCell (p := ⟨g, 2, none⟩) (fun _ => rfl) _
      exact ⟨rfl, ⟨HBN.out.set 2 _, At.kp HAT.out hk2 (by omega) (by intro i hi; omega), hp⟩, hk2⟩
  · have hr : Txs.Cur.count b ⟨p, e⟩ k = (0, ⟨p, e⟩) := Txs.Cur.count_err (by exact he) k
    rw [hr]
    have he' : (e != 0) = true := by rw [bne_iff_ne]; exact he
    clear hb hat hl hr he
    go_enter Tryd.func101, Tryd.ntmps101
    go_wp2_with fail
    go_ret
    exact ⟨rfl, ⟨HB.out, HAT.out, hp⟩, Kp.refl _ _⟩
theorem fill32_row {l : List UInt8} (h : l.length = 0 ∨ l.length = 32) : (List.replicate 32 (0 : UInt8)).take 0 ++ l.take l.length ++ (List.replicate 32 (0 : UInt8)).drop (0 + l.length) = Txs.fill32 l := by
  unfold Txs.fill32
  rw [List.take_zero, List.nil_append, List.take_length, Nat.zero_add, List.drop_replicate]
set_option maxHeartbeats 1000000 in
theorem hash_any {A : Option Addr} {n c g B : Nat} {b : List UInt8} (ok : CurOk A n c g B b) (s : Txs.Cur) (w : World) (h : IsCur w g B A n c b s) :
    Calls Tryd.prog 102 #[.pointer (some ⟨g, 0, none⟩)] w fun e w' =>
      e = .returned (.agg (bytesArr (Txs.fill32 (s.take b 32).1))) ∧ IsCur w' g B A n c b (s.take b 32).2 ∧ Kp (fun i => i = g) w w' := by
  obtain ⟨zs, hzs⟩ : ∃ zs, zs = bytesArr (List.replicate 32 (0 : UInt8)) := ⟨_, rfl⟩
  have hzz := zero_hash
  rw [← hzs] at hzz
  have HZ := Lib.hid hzz
  have HZS := Lib.hid hzs
  have hgl := h.bk.lt
  have hB := ok.low
  obtain ⟨w0, hw0⟩ : ∃ w0, w0 = w.alloc (.cells zs 93) := ⟨_, rfl⟩
  have k0 : Kp (fun i => i = w.heap.size) w w0 := by rw [hw0]; exact (Kp.refl _ _).alloc _
  have HB0 := Lib.hid (show Bk w0 w.heap.size 93 zs by rw [hw0]; exact Bk.new _ _ _)
  have HT := Lib.hid (fun i => take_any ok s 32 (by omega) (by omega) (w0.drewN i) (h.kp (k0.drewN i) (by omega) (by intro j hj; omega) (by omega)))
  have hlen := Txs.Cur.take_len b s 32
  generalize s.take b 32 = r at *
  obtain ⟨l, s'⟩ := r
  simp only at hlen HT ⊢
  have HK0 := Lib.hid k0
  have hmin : l.length = min l.length 32 := by omega
  have HLEN := Lib.hid hlen
  have HMIN := Lib.hid hmin
  clear h hzz hzs k0 hlen hmin
  go_enter Tryd.func102, Tryd.ntmps102
  go_wp2_with (refine wpList_allocOf rfl 93 rfl zs HZ.out ?_)
  rw [← hw0]
  clear hw0
  go_region_held3 (fun w' => True) (trivial) ((go_at_call 103; refine (HT.out _).mono ?_; rintro e w1 ⟨A', c', rfl, hat, hc, hk⟩; obtain ⟨w2, hcp, kb2, kk2⟩ := copy_row_bytes 93 w1 w.heap.size 0 32 l.length B l.length A' (List.replicate 32 0) l (by rw [← HZS.out]; exact (HB0.out.drewN _).kp hk (by omega)) hat rfl HMIN.out (by rcases HLEN.out with h | h <;> simp [h])))
  rw [fill32_row HLEN.out] at kb2
  have hcl : (Txs.fill32 l).length = 32 := Txs.fill32_len (by have := HLEN.out; omega)
  have hc2 : IsCur w2 g B A n c b s' := hc.kp kk2 (by omega) (by intro j hj; omega) (by have := hk.size; have := HK0.out.size; simp at *; omega)
  have hk2 : Kp (fun i => i = g) w w2 := ((HK0.out.drewN _).trans_of hk (S := fun i => i = w.heap.size) (T := fun i => i = g) |> fun _ => ⟨(kk2.os.trans (hk.os.trans HK0.out.os)), (kk2.tape.trans (hk.tape.trans HK0.out.tape)), (kk2.output.trans (hk.output.trans HK0.out.output)), Nat.le_trans HK0.out.size (Nat.le_trans hk.size kk2.size), fun i hi hn => (kk2.block i (Nat.lt_of_lt_of_le hi (Nat.le_trans HK0.out.size hk.size)) (by omega)).trans ((hk.block i (Nat.lt_of_lt_of_le hi HK0.out.size) hn).trans (HK0.out.block i hi (by omega)))⟩)
  obtain ⟨cs, hcs⟩ : ∃ cs, cs = bytesArr (Txs.fill32 l) := ⟨_, rfl⟩
  rw [← hcs] at kb2
  have HSZ := Lib.hid (show cs.size = 32 by rw [hcs]; simpa [bytesArr] using hcl)
  have HONE := Lib.hid (show cs.all (·.oneCell') = true by rw [hcs]; exact all_oneCell_toArray (oneCell_bytes _))
  have HCS := Lib.hid hcs
  have HKB := Lib.hid kb2
  have HC2 := Lib.hid hc2
  have HK2 := Lib.hid hk2
  clear hcp kb2 kk2 hcs hc2 hk2 hcl hc hk hat HT
  go_wp2_with (first
    | (refine wpList_load_row rfl 93 (.tmp 2) rfl w.heap.size (by rfl) 93 cs (0, 0) _ HKB.out Tryd.underlying93 rfl (by rw [HSZ.out]; exact size_hash) ?_)
    | (refine wpList_store_row rfl 93 (.tmp 2) (.tmp 7) rfl w.heap.size cs (by rfl) (by rfl) 93 cs HKB.out (by rw [HSZ.out]; exact size_hash) rfl HONE.out ?_))
  refine bodyPost_ret (results_cell_row rfl _ _ w.heap.size 93 cs (0, 0) _ rfl (setRow_heap _ _ _ _ _ _ HKB.out) Tryd.underlying93 rfl (by rw [HSZ.out]; exact size_hash)) rfl ⟨by rw [HCS.out], ?_, ?_⟩
  · exact HC2.out.kp (Kp.setRow7 (S := fun i => i = w.heap.size) (Kp.refl _ _) (fun _ => rfl) _) (by omega) (by intro j hj; omega) (by have := HC2.out.bk.lt; omega)
  · exact HK2.out.trans_of (Kp.setRow7 (S := fun i => i = w.heap.size) (Kp.refl _ _) (fun _ => rfl) _) (fun i hi hs => by omega)
end Go.Proofs.YtpacgblddeoheaaDoor.T7
