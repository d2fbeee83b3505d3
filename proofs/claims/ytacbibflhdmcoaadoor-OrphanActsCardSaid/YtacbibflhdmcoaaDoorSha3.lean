/- Sums of 256 bits, in plain Lean: bytes taken in piece by piece. -/
import Derived.Test.YtacbibflhdmcoaaDoorShaBlock
set_option linter.unusedVariables false
set_option linter.unusedSimpArgs false
namespace Go.Proofs.YtacbibflhdmcoaaDoor.Sha
theorem blocks_append (s : St) (l t : List UInt8) (n : Nat) (h : 64 * n ≤ l.length) : blocks s (l ++ t) n = blocks s l n := by
  induction n with
  | zero => rfl
  | succ n ih =>
    rw [blocks, blocks, ih (by omega)]
    congr 1
    rw [List.drop_append, List.take_append]
    rw [show 64 - (l.drop (64 * n)).length = 0 by rw [List.length_drop]; omega]
    simp
/-- what is there of these bytes: the state of whole blocks, and the open block's bytes -/
structure Abs (m : List UInt8) (s : St) (o : List UInt8) : Prop where
  len : o.length = 64
  st : s = blocks first m (m.length / 64)
  op : o.take (m.length % 64) = m.drop (64 * (m.length / 64))
theorem Abs.nil : Abs [] first (List.replicate 64 0) := ⟨by simp, rfl, rfl⟩
def put (o t : List UInt8) (at_ : Nat) : List UInt8 := o.take at_ ++ t ++ o.drop (at_ + t.length)
theorem put_len {o t : List UInt8} {at_ : Nat} (h : at_ + t.length ≤ o.length) : (put o t at_).length = o.length := by
  simp [put]; omega
theorem Abs.part {m t : List UInt8} {s : St} {o : List UInt8} (h : Abs m s o) (ht : m.length % 64 + t.length < 64) : Abs (m ++ t) s (put o t (m.length % 64)) := by
  have hd : (m ++ t).length / 64 = m.length / 64 := by rw [List.length_append]; omega
  have hm : (m ++ t).length % 64 = m.length % 64 + t.length := by rw [List.length_append]; omega
  have hl : (o.take (m.length % 64)).length = m.length % 64 := by rw [List.length_take, h.len]; omega
  refine ⟨by rw [put_len (by rw [h.len]; omega), h.len], ?_, ?_⟩
  · rw [hd, blocks_append _ _ _ _ (by omega), h.st]
  · rw [hd, hm, put, List.take_left' (by rw [List.length_append, hl]), h.op, List.drop_append_of_le_length (by omega)]
theorem Abs.full {m t : List UInt8} {s : St} {o : List UInt8} (h : Abs m s o) (ht : m.length % 64 + t.length = 64) : Abs (m ++ t) (block s (put o t (m.length % 64))) (put o t (m.length % 64)) := by
  have hd : (m ++ t).length / 64 = m.length / 64 + 1 := by rw [List.length_append]; omega
  have hm : (m ++ t).length % 64 = 0 := by rw [List.length_append]; omega
  have hl : (o.take (m.length % 64)).length = m.length % 64 := by rw [List.length_take, h.len]; omega
  have hp : put o t (m.length % 64) = ((m ++ t).drop (64 * (m.length / 64))).take 64 := by
    rw [put, List.drop_of_length_le (by rw [h.len]; omega), List.append_nil, h.op, List.drop_append_of_le_length (by omega)]
    rw [List.take_of_length_le]
    rw [List.length_append, List.length_drop]; omega
  refine ⟨by rw [put_len (by rw [h.len]; omega), h.len], ?_, ?_⟩
  · rw [hd, blocks, blocks_append _ _ _ _ (by omega), ← h.st, hp]
  · rw [hm, hd, List.take_zero, List.drop_of_length_le (by rw [List.length_append]; omega)]
end Go.Proofs.YtacbibflhdmcoaaDoor.Sha
