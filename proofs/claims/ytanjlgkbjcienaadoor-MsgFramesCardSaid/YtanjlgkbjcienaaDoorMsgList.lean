/- Package msg: ids out of bytes. -/
import Derived.Test.YtanjlgkbjcienaaDoorMsg
import Derived.Test.YtanjlgkbjcienaaDoorTxPtsP
import Derived.Test.YtanjlgkbjcienaaDoorOctRead
namespace Go.Proofs.YtanjlgkbjcienaaDoor.M8
open Go.RowKit Go.Deep T7
set_option linter.unusedVariables false
set_option linter.unusedSimpArgs false
set_option maxRecDepth 100000
attribute [local go_sem ↓] Go.wp_at_zero Go.wp_at_succ

theorem hash_info8 : (Tryd.prog.info? 49).map (fun i => (i.zero, i.size, i.bytes)) = some (some (.agg (bytesArr (List.replicate 32 0))), 32, 32) := by kernel_rfl
theorem made_bytes (m N : Nat) (hm : 0 < m) : madeCells (bytesArr (List.replicate m (0 : UInt8))) N = bytesArr (List.replicate N 0) := by
  apply Array.ext_getElem?
  intro i
  simp only [madeCells, bytesArr]
  by_cases h : i < N
  · have h32 : i % m < m := Nat.mod_lt _ hm
    simp [h, h32, byteV]
  · simp [h]
theorem made_hashes (n : Nat) : madeCells (Value.agg (bytesArr (List.replicate 32 (0 : UInt8)))).cells (n * 32) = bytesArr (List.replicate (n * 32) 0) := made_bytes 32 (n * 32) (by omega)
/-- hashes that lie as bytes -/
theorem hashes_of_bytes {w : World} {g t n : Nat} {b : List UInt8} (h : Bk w g t (bytesArr (b.take (32 * n)))) (hl : 32 * n ≤ b.length) : HashesAt w w.heap.size (some ⟨g, 0, none⟩) (Msgs.hashes b n) := by
  have hat : ∀ (n i : Nat) (b : List UInt8), i < n → (Msgs.hashes b n)[i]? = some ((b.drop (i * 32)).take 32) := by
    intro n
    induction n with
    | zero => intro i b h; omega
    | succ n ih =>
      intro i b h
      cases i with
      | zero => simp [Msgs.hashes]
      | succ i =>
        rw [Msgs.hashes, List.getElem?_cons_succ, ih i (b.drop 32) (by omega), List.drop_drop]
        rw [show 32 + i * 32 = (i + 1) * 32 by omega]
  intro i hi
  have hin : i < n := by rwa [Msgs.hashes_len] at hi
  have e := hat n i b hin
  rw [List.getElem?_eq_getElem hi] at e
  injection e with e
  have hlen : ((b.drop (i * 32)).take 32).length = 32 := by rw [List.length_take, List.length_drop]; omega
  refine ⟨g, 0, ((b.drop (i * 32)).take 32).map byteV, rfl, h.lt, ⟨by rw [e]; exact hlen, by rw [e]⟩, fun j hj => ?_⟩
  rw [List.length_map, hlen] at hj
  rw [h.cell]
  simp only [bytesArr, List.getElem?_toArray, List.getElem?_map, List.getElem_map, List.getElem_take, List.getElem_drop]
  rw [List.getElem?_take_of_lt (by omega), List.getElem?_eq_getElem (by omega)]
  simp [Nat.add_comm]
set_option maxHeartbeats 2000000 in
theorem list_any (A : Option Addr) (L c B n : Nat) (b : List UInt8) (w : World) (hl : b.length = L) (hc : L ≤ c) (hm : c ≤ maxLen) (hat : BytesAt w B A b) (hB : B ≤ w.heap.size) (hn : 32 * n ≤ L) (h32 : n ≤ 32) :
    Calls Tryd.prog 52 #[.slice A L c, .int .i64 (n : Int)] w fun e w' => ∃ A' r c', e = .returned (.tuple #[.slice (some ⟨w.heap.size, 0, none⟩) n n, .slice A' r c']) ∧ r + 32 * n = L ∧ r ≤ c' ∧ c' ≤ maxLen ∧ BytesAt w' B A' (b.drop (32 * n)) ∧
      HashesAt w' w'.heap.size (some ⟨w.heap.size, 0, none⟩) (Msgs.hashes b n) ∧ Below w.heap.size w w' := by
  have hmk := run_make_rows (P := Tryd.prog) 24 49 _ 32 32 Tryd.underlying24 hash_info8 .i64 .i64 n (by omega) (by omega)
  rw [made_hashes] at hmk
  obtain ⟨z0, hz0⟩ : ∃ z0, z0 = bytesArr (List.replicate (n * 32) (0 : UInt8)) := ⟨_, rfl⟩
  rw [← hz0] at hmk
  have HZ0 := Lib.hid hz0
  have HL := Lib.hid hl
  have HAT := Lib.hid hat
  obtain ⟨g, hg⟩ : ∃ g, g = w.heap.size := ⟨_, rfl⟩
  obtain ⟨w2, hw2⟩ : ∃ w2, w2 = w.alloc (.cells z0 49) := ⟨_, rfl⟩
  have HK2 := Lib.hid (show Bk w2 g 49 (bytesArr (b.take (32 * 0) ++ List.replicate (32 * n - 32 * 0) 0)) by
    rw [hw2, hg, hz0]
    have := Bk.new w 49 (bytesArr (List.replicate (n * 32) (0 : UInt8)))
    simpa [Nat.mul_comm] using this)
  have HB2 := Lib.hid (show Below w.heap.size w w2 by rw [hw2]; exact Joins.below_alloc1 _ _)
  have HG := Lib.hid hg
  have hgB : B ≤ g := by omega
  clear hz0 hl hat
  go_enter Tryd.func52, Tryd.ntmps52
  go_upto_region 2 with (fail)
  rw [← hw2, ← hg]
  clear hw2 hg hmk
  go_wp2_with fail
  go_loopw [0, 12] (fun u v wr => ∃ (k r ci : Nat) (Ai : Option Addr), k ≤ n ∧ v = .int .i64 (k : Int) ∧ u = .slice Ai r ci ∧ r + 32 * k = L ∧ r ≤ ci ∧ ci ≤ maxLen ∧ Hid (BytesAt wr B Ai (b.drop (32 * k))) ∧ Hid (Bk wr g 49 (bytesArr (b.take (32 * k) ++ List.replicate (32 * n - 32 * k) 0))) ∧ Hid (Below w.heap.size w wr)) (fun _ v _ => n - (intOf v).toNat)
  case atStart => exact ⟨0, L, c, A, Nat.zero_le _, rfl, rfl, rfl, hc, hm, Lib.hid (by simpa using At.below HAT.out (HB2.out.mono hB)), HK2, HB2⟩
  case round =>
    obtain ⟨k, r, ci, Ai, hk, rfl, rfl, hr, hrc, hcm, hbk, hrow, hb⟩ := hrel
    by_cases hlt : k < n
    · have hbl : (b.drop (32 * k)).length = r := by rw [List.length_drop, HL.out]; omega
      obtain ⟨bb, off, rfl, hbB, hcell⟩ := hbk.out.cell (i := 0) (by omega)
      obtain ⟨W2, hcp, kb2, kk2⟩ := copy_row_bytes 49 wr g (k * 32) 32 r B 32 (some ⟨bb, off, none⟩) _ (b.drop (32 * k)) hrow.out hbk.out hbl (by omega) (by rw [List.length_append, List.length_take, List.length_replicate, HL.out]; omega)
      have HROW := Lib.hid (show Bk W2 g 49 (bytesArr (b.take (32 * (k + 1)) ++ List.replicate (32 * n - 32 * (k + 1)) 0)) by
        have e : (b.take (32 * k) ++ List.replicate (32 * n - 32 * k) (0 : UInt8)).take (k * 32) ++ (b.drop (32 * k)).take 32 ++ (b.take (32 * k) ++ List.replicate (32 * n - 32 * k) (0 : UInt8)).drop (k * 32 + 32) = b.take (32 * (k + 1)) ++ List.replicate (32 * n - 32 * (k + 1)) 0 := by
          have hlt' : (b.take (32 * k)).length = k * 32 := by rw [List.length_take, HL.out]; omega
          rw [List.take_left' hlt', ← List.drop_drop, List.drop_left' hlt', List.drop_replicate, show 32 * (k + 1) = 32 * k + 32 by omega, List.take_add, show 32 * n - 32 * k - 32 = 32 * n - (32 * k + 32) by omega]
        rw [← e]
        exact kb2)
      have HBA := Lib.hid (show BytesAt W2 B (some ⟨bb, off, none⟩) (b.drop (32 * k)) from At.kp hbk.out kk2 (by have := hb.out.size; omega) (fun i hi e => by omega))
      have HBW := Lib.hid (show Below w.heap.size w W2 from Kp.from_elder hb.out kk2 (fun i hi e => by rw [HG.out] at e; omega))
      have i1 : (0 : Int) ≤ (k : Int) := by omega
      have i2 : (k : Int) < (n : Int) := by omega
      have i3 : (32 : Int) ≤ (r : Int) := by omega
      have hr32 : 32 ≤ r := by omega
      clear kb2 kk2 hbk hrow hb hcell hbl HK2 HB2
      unfold maxLen at hcm
      have HDR := Lib.hid (show b.drop (32 * (k + 1)) = (b.drop (32 * k)).drop 32 by rw [List.drop_drop]; congr 1)
      by_cases hcap : ci = 32
      · go_wp2_with fail
        go_roundw
        case rel =>
          refine ⟨k + 1, r - 32, 0, some ⟨bb, off, none⟩, by omega, by go_num, rfl, by omega, by omega, by simp [maxLen], Lib.hid ?_, HROW, HBW⟩
          rw [List.drop_of_length_le (by rw [HL.out]; omega)]
          intro i hi
          simp at hi
        case measure => simp [intOf]; omega
      · go_wp2_with fail
        go_roundw
        case rel =>
          refine ⟨k + 1, r - 32, ci - 32, some ⟨bb, off + 32, none⟩, by omega, by go_num, rfl, by omega, by omega, by unfold maxLen; omega, Lib.hid ?_, HROW, HBW⟩
          rw [HDR.out]
          exact BytesAt.drop HBA.out 32
        case measure => simp [intOf]; omega
    · obtain rfl : k = n := by omega
      have HH := Lib.hid (show HashesAt wr wr.heap.size (some ⟨g, 0, none⟩) (Msgs.hashes b k) from hashes_of_bytes (t := 49) (by have := hrow.out; rwa [Nat.sub_self, List.replicate_zero, List.append_nil] at this) (by rw [HL.out]; exact hn))
      clear hrow
      go_wp2_with fail
      go_ret2
      exact ⟨Ai, r, ci, by rw [← HG.out]; rfl, hr, hrc, hcm, hbk.out, by rw [← HG.out]; exact HH.out, hb.out⟩
/-- ids that were read, and an error's number -/
def ManyOut (w w' : World) (r : List (List UInt8) × Int) (e : Ending) : Prop :=
  ∃ A' c', e = .returned (.tuple #[.slice A' r.1.length c', .int .i64 r.2]) ∧ r.1.length ≤ c' ∧ c' ≤ maxLen ∧ HashesAt w' w'.heap.size A' r.1 ∧ (∀ a, A' = some a → w.heap.size ≤ a.block) ∧ Below w.heap.size w w'
theorem ManyOut.bad (w : World) (x : Int) : ManyOut w w ([], x) (.returned (.tuple #[.slice none 0 0, .int .i64 x])) := ⟨none, 0, rfl, Nat.le_refl _, by simp [maxLen], fun i hi => by simp at hi, (fun a ha => by cases ha), Below.refl _ _⟩
def manyI (b : List UInt8) : List (List UInt8) × Int := ((Msgs.many 0 b).1.ids, (Msgs.many 0 b).2)
theorem many_err (k : Int) (b : List UInt8) : (Msgs.many k b).2 = (manyI b).2 ∧ ((manyI b).2 ≠ 0 → Msgs.many k b = (Msgs.none, (manyI b).2)) ∧ ((manyI b).2 = 0 → Msgs.many k b = (⟨k, 0, 0, (manyI b).1, Txs.none⟩, 0)) := by
  unfold manyI Msgs.many
  by_cases h1 : (Oct.read b).2.2 ≠ 0
  · simp only [if_pos h1]; exact ⟨trivial, fun _ => trivial, fun h => absurd h h1⟩
  simp only [if_neg h1]
  by_cases h2 : (Oct.read b).1 = 0
  · simp only [if_pos h2]; exact ⟨trivial, fun _ => trivial, fun h => by cases h⟩
  simp only [if_neg h2]
  by_cases h3 : 32 < (Oct.read b).1
  · simp only [if_pos h3]; exact ⟨trivial, fun _ => trivial, fun h => by cases h⟩
  simp only [if_neg h3]
  by_cases h4 : b.length - (Oct.read b).2.1 < 32 * (Oct.read b).1
  · simp only [if_pos h4]; exact ⟨trivial, fun _ => trivial, fun h => by cases h⟩
  simp only [if_neg h4]
  by_cases h5 : 32 * (Oct.read b).1 < b.length - (Oct.read b).2.1
  · simp only [if_pos h5]; exact ⟨trivial, fun _ => trivial, fun h => by cases h⟩
  simp only [if_neg h5]
  exact ⟨trivial, fun h => absurd rfl h, fun _ => trivial⟩
set_option maxHeartbeats 2000000 in
theorem many_any (A : Option Addr) (L c B : Nat) (b : List UInt8) (w : World) (hl : b.length = L) (hc : L ≤ c) (hm : c ≤ maxLen) (hat : BytesAt w B A b) (hB : B ≤ w.heap.size) :
    Calls Tryd.prog 26 #[.slice A L c, .int .i64 32] w fun e w' => ManyOut w w' (manyI b) e := by
  have hrd := fun W h => oread_any A L c B b W hl hc hm h
  have hML := Lib.hid (show manyI b = if (Oct.read b).2.2 ≠ 0 then ([], (Oct.read b).2.2) else if (Oct.read b).1 = 0 then ([], 9) else if 32 < (Oct.read b).1 then ([], 5) else if b.length - (Oct.read b).2.1 < 32 * (Oct.read b).1 then ([], 4) else if 32 * (Oct.read b).1 < b.length - (Oct.read b).2.1 then ([], 5) else (Msgs.hashes (b.drop (Oct.read b).2.1) (Oct.read b).1, 0) by
    unfold manyI Msgs.many
    (repeat' split) <;> rfl)
  rcases Oct.read_back b with ⟨r1, r2, r3, _⟩ | ⟨r1, r2, r3, r4, r5⟩
  · rw [if_pos r1] at hML
    have HX := Lib.hid hML.out
    unfold readV at hrd
    rw [r2, r3] at hrd
    have HRD := Lib.hid hrd
    generalize (Oct.read b).2.2 = er at *
    have e1 : (er != 0) = true := by rw [bne_iff_ne]; exact r1
    rw [HX.out]
    have HAT := Lib.hid hat
    clear r1 r2 r3 hML hrd hat hl
    go_enter Tryd.func26, Tryd.ntmps26
    go_wp2_with fail
    refine (HRD.out _ HAT.out).mono ?_
    rintro e w1 ⟨rfl, rfl⟩
    go_wp2_with fail
    go_ret2
    exact ManyOut.bad _ _
  · rw [if_neg (by simp [r1])] at hML
    unfold readV at hrd
    rw [r1] at hrd
    have hj := r3
    generalize (Oct.read b).1 = x at *
    generalize (Oct.read b).2.1 = j at *
    have hj1 := Oct.size_pos x
    rw [← hj] at hj1
    have HRD := Lib.hid hrd
    have HAT := Lib.hid hat
    have HLL := Lib.hid hl
    rw [hl] at hML
    have hjl : j ≤ L := by rw [hl] at r4; exact r4
    clear r1 r3 r4 r5 hj hrd hat hl
    have hx0 : (0 : Int) ≤ (x : Int) := by omega
    rcases Nat.eq_zero_or_pos x with q1 | q1
    · rw [if_pos q1] at hML
      subst q1
      rw [hML.out]
      go_enter Tryd.func26, Tryd.ntmps26
      go_wp2_with fail
      refine (HRD.out _ HAT.out).mono ?_
      rintro e w1 ⟨rfl, rfl⟩
      go_wp2_with fail
      go_ret2
      exact ManyOut.bad _ _
    rw [if_neg (by omega)] at hML
    have q1' : ((x : Int) == 0) = false := by rw [beq_eq_false_iff_ne]; omega
    rcases Nat.lt_or_ge 32 x with q2 | q2
    · rw [if_pos q2] at hML
      rw [hML.out]
      have q2' : (32 : Int) < (x : Int) := by omega
      go_enter Tryd.func26, Tryd.ntmps26
      go_wp2_with fail
      refine (HRD.out _ HAT.out).mono ?_
      rintro e w1 ⟨rfl, rfl⟩
      go_wp2_with fail
      go_ret2
      exact ManyOut.bad _ _
    rw [if_neg (by omega)] at hML
    have q2' : ¬ (32 : Int) < (x : Int) := by omega
    have i1 : (0 : Int) ≤ (j : Int) := by omega
    have i2 : (j : Int) ≤ (c : Int) := by omega
    have i3 : (j : Int) ≤ (L : Int) := by omega
    have HMX := Lib.hid hm
    have hA : ∃ bb off, A = some ⟨bb, off, none⟩ := by
      obtain ⟨bb, off, h, _⟩ := HAT.out.cell (i := 0) (by rw [HLL.out]; omega)
      exact ⟨bb, off, h⟩
    obtain ⟨bb, off, rfl⟩ := hA
    have HDL := Lib.hid (show (b.drop j).length = L - j by rw [List.length_drop, HLL.out])
    unfold maxLen at hm
    have hx32 : (x : Int) ≤ 32 := by omega
    obtain ⟨r, hr⟩ : ∃ r, r = L - j := ⟨_, rfl⟩
    have hrj : r + j = L := by omega
    rw [← hr] at hML HDL
    have hcase : r < 32 * x ∨ 32 * x < r ∨ r = 32 * x := by omega
    rcases hcase with q3 | q3 | q3
    · rw [if_pos q3] at hML
      rw [hML.out]
      have q3' : ((L - j : Nat) : Int) < 32 * (x : Int) := by omega
      by_cases hcj : c = j
      · subst hcj
        go_enter Tryd.func26, Tryd.ntmps26
        go_wp2_with fail
        refine (HRD.out _ HAT.out).mono ?_
        rintro e w1 ⟨rfl, rfl⟩
        clear HRD
        go_wp2_with fail
        go_ret2
        exact ManyOut.bad _ _
      · have hcj' : ¬ (c : Int) = (j : Int) := by omega
        go_enter Tryd.func26, Tryd.ntmps26
        go_wp2_with fail
        refine (HRD.out _ HAT.out).mono ?_
        rintro e w1 ⟨rfl, rfl⟩
        clear HRD
        go_wp2_with fail
        go_ret2
        exact ManyOut.bad _ _
    · rw [if_neg (by omega), if_pos q3] at hML
      rw [hML.out]
      have q3' : ¬ ((L - j : Nat) : Int) < 32 * (x : Int) := by omega
      have q4' : 32 * (x : Int) < ((L - j : Nat) : Int) := by omega
      have hcj : ¬ c = j := by omega
      go_enter Tryd.func26, Tryd.ntmps26
      go_wp2_with fail
      refine (HRD.out _ HAT.out).mono ?_
      rintro e w1 ⟨rfl, rfl⟩
      clear HRD
      go_wp2_with fail
      go_ret2
      exact ManyOut.bad _ _
    · rw [if_neg (by omega), if_neg (by omega)] at hML
      rw [hML.out]
      have q3' : ¬ ((L - j : Nat) : Int) < 32 * (x : Int) := by omega
      have q4' : ¬ 32 * (x : Int) < ((L - j : Nat) : Int) := by omega
      have hcj : ¬ c = j := by omega
      go_enter Tryd.func26, Tryd.ntmps26
      go_wp2_with fail
      refine (HRD.out _ HAT.out).mono ?_
      rintro e w1 ⟨rfl, rfl⟩
      clear HRD
      go_wp2_with fail
      rw [← hr]
      refine (list_any (some ⟨bb, off + j, none⟩) r (c - j) B x (b.drop j) _ HDL.out (by omega) (by unfold maxLen; omega) (BytesAt.drop HAT.out j) hB (by omega) (by omega)).mono ?_
      rintro e w2 ⟨A2, r2, c2, rfl, _, _, _, _, hh2, hb2⟩
      have HH2 := Lib.hid hh2
      have HB2 := Lib.hid hb2
      clear hh2 hb2
      go_wp2_with fail
      go_ret2
      exact ⟨some ⟨w.heap.size, 0, none⟩, x, by rw [Msgs.hashes_len]; rfl, by rw [Msgs.hashes_len]; exact Nat.le_refl _, by unfold maxLen; omega, HH2.out, (fun a ha => by cases ha; exact Nat.le_refl _), HB2.out⟩
end Go.Proofs.YtanjlgkbjcienaaDoor.M8
