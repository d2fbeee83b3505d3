/- Bytes copied into a row of bytes. -/
import Derived.Test.YtacbibflhdmcoaaDoorShaTwice
import Derived.Test.YtacbibflhdmcoaaDoorOctU
import Derived.Lib.BufferWrite
namespace Go.Proofs.YtacbibflhdmcoaaDoor
open Go.RowKit Go.Deep
set_option linter.unusedVariables false
set_option linter.unusedSimpArgs false
set_option maxRecDepth 100000
attribute [local go_sem ↓] Go.wp_at_zero Go.wp_at_succ

/-- bytes copied into a row of bytes -/
theorem copy_bytes_at (t : Nat) (W : World) (g o dLen sLen B k : Nat) (A : Option Addr) (row src : List UInt8) (hb : Bk W g t (bytesArr row)) (hs : BytesAt W B A src) (hl : src.length = sLen) (hk : k = min sLen dLen) (hfit : o + k ≤ row.length) :
    ∃ W2, (∀ ty dCap sCap, (Builtin.copy_ #[89, 89] ty #[.slice (some ⟨g, o, none⟩) dLen dCap, .slice A sLen sCap]).run Tryd.prog W = .ok (goInt k) W2) ∧
      Bk W2 g t (bytesArr (row.take o ++ src.take k ++ row.drop (o + k))) ∧ Kp (fun i => i = g) W W2 := by
  subst hl
  rcases Nat.eq_zero_or_pos k with h0 | h0
  · refine ⟨W, fun ty dCap sCap => ?_, ?_, Kp.refl _ _⟩
    · rw [h0]; exact run_copy_none W _ _ ty 5 _ _ dLen dCap src.length sCap Tryd.underlying89 info_u8 (by rw [← h0, hk])
    · rw [h0]; simpa using hb
  · obtain ⟨q, off, rfl, _, _⟩ := hs.cell (i := 0) (by omega)
    have hlk : (src.take k).length = k := by rw [List.length_take]; omega
    have hcl : ((src.take k).map byteV).length = k := by rw [List.length_map, hlk]
    have hsrc := BytesAt.src (BytesAt.take hs k)
    have hrun := fun ty dCap sCap => run_copy_row (P := Tryd.prog) W 89 89 ty 5 g o dLen dCap ⟨q, off, none⟩ src.length sCap (bytesArr row) t ((src.take k).map byteV)
      Tryd.underlying89 info_u8 hb (by rw [hcl, hk]) (fun j v hj => by obtain ⟨ad, ha, hc⟩ := hsrc j v hj; cases ha; exact hc) (by rw [hcl]; simpa [bytesArr] using hfit) (oneCell_bytes _)
    have hrow : ((bytesArr row).toList.take o ++ (src.take k).map byteV ++ (bytesArr row).toList.drop (o + k)).toArray = bytesArr (row.take o ++ src.take k ++ row.drop (o + k)) := by
      simp [bytesArr, List.map_take, List.map_drop]
    rw [hcl, hrow] at hrun
    exact ⟨_, hrun, setRow_heap _ _ _ _ _ _ hb, Kp.setRow (S := fun i => i = g) (Kp.refl _ _) (fun _ => rfl) _⟩
theorem copy_bytes (W : World) (g o dLen sLen B k : Nat) (A : Option Addr) (row src : List UInt8) (hb : Bk W g 5 (bytesArr row)) (hs : BytesAt W B A src) (hl : src.length = sLen) (hk : k = min sLen dLen) (hfit : o + k ≤ row.length) :
    ∃ W2, (∀ ty dCap sCap, (Builtin.copy_ #[89, 89] ty #[.slice (some ⟨g, o, none⟩) dLen dCap, .slice A sLen sCap]).run Tryd.prog W = .ok (goInt k) W2) ∧
      Bk W2 g 5 (bytesArr (row.take o ++ src.take k ++ row.drop (o + k))) ∧ Kp (fun i => i = g) W W2 := copy_bytes_at _ W g o dLen sLen B k A row src hb hs hl hk hfit
end Go.Proofs.YtacbibflhdmcoaaDoor
