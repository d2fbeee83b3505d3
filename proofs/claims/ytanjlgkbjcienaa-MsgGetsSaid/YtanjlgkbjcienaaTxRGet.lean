/- The document's Get: its parts. -/
import Derived.Test.YtanjlgkbjcienaaTxGet
import Derived.Test.YtanjlgkbjcienaaOctReadR
import Derived.Test.YtanjlgkbjcienaaRef02G
namespace Go.Proofs.Ytanjlgkbjcienaa.T7
open Go.RowKit Go.Deep
set_option linter.unusedVariables false
set_option linter.unusedSimpArgs false
set_option maxRecDepth 100000
attribute [local go_sem ↓] Go.wp_at_zero Go.wp_at_succ

/-- what count answers: how many, where it ends, an error -/
def rcnt (b : List UInt8) (p most : Nat) : Nat × Nat × Int := ((Txs.count (b.drop p) most).1, if (Txs.count (b.drop p) most).2.2 = 0 then p + (Txs.count (b.drop p) most).2.1 else 0, (Txs.count (b.drop p) most).2.2)
set_option maxHeartbeats 1000000 in
theorem rcount_any (A : Option Addr) (n c B : Nat) (b : List UInt8) (p k : Nat) (w : World) (hl : b.length = n) (hc : n ≤ c) (hm : c ≤ maxLen) (hn : n ≤ 140737488351232) (hat : BytesAt w B A b) (hB : B ≤ w.heap.size) (hp : p ≤ n) (hn0 : 0 < n) (hk : k < 253) :
    Calls Try.prog 53 #[.slice A n c, .int .i64 (p : Int), .int .u64 (k : Int)] w fun e w' =>
      e = .returned (.tuple #[.int .i64 ((rcnt b p k).1 : Int), .int .i64 ((rcnt b p k).2.1 : Int), .int .i64 (rcnt b p k).2.2]) ∧ Below w.heap.size w w' := by
  unfold maxLen at hm
  obtain ⟨q, off, rfl, -, -⟩ := hat.cell (i := 0) (by omega)
  obtain ⟨x, m, r, hx, hxc⟩ : ∃ x m r, Oct.read (b.drop p) = (x, m, r) ∧ (r ≠ 0 ∨ (r = 0 ∧ m ≤ n - p)) := by
    refine ⟨_, _, _, rfl, ?_⟩
    rcases Oct.read_back (b.drop p) with ⟨h1, _⟩ | ⟨h1, _, _, h4, _⟩
    · exact .inl h1
    · rw [List.length_drop, hl] at h4; exact .inr ⟨h1, h4⟩
  have hV := readV_of hx
  obtain ⟨rb1, rb2⟩ := read_bounds (b.drop p)
  rw [hx] at rb1 rb2
  simp only at rb1 rb2
  have HC : Hid (rcnt b p k = if r ≠ 0 then (0, 0, r) else if k < x then (0, 0, 5) else (x, p + m, 0)) := Lib.hid (by
    unfold rcnt Txs.count
    rw [hx]
    by_cases hr : r = 0
    · subst hr
      by_cases hk : k < x
      · simp [hk]
      · simp [hk]
    · simp [hr])
  have HX1 := Lib.hid rb1
  have hxb : (x : Int) ≤ 18446744073709551615 := by omega
  have HRD := fun o' (hat' : BytesAt w B (some ⟨q, o', none⟩) (b.drop p)) => Lib.hid (rread_any (some ⟨q, o', none⟩) (n - p) (c - p) B (b.drop p) w (by rw [List.length_drop, hl]) (by omega) (by unfold maxLen; omega) hB hat')
  rw [hV] at HRD
  have hat0 := hat.drop p
  have hatc : c = p → BytesAt w B (some ⟨q, off, none⟩) (b.drop p) := fun e => by
    have : b.drop p = [] := List.drop_of_length_le (by omega)
    rw [this]; exact fun i hi => by simp at hi
  generalize rcnt b p k = rc at *
  clear hx hV rb1 hat
  have hend : ∀ (W : World), Below w.heap.size w W → Below w.heap.size w W := fun _ h => h
  clear hend
  by_cases hcp : c = p
  · have HRD := HRD off (hatc hcp)
    obtain rfl : n = c := by omega
    subst hcp
    have hnn : n - n = 0 := by omega
    rw [hnn] at HRD
    clear hatc hat0 hnn
    go_enter Try.func53, Try.ntmps53
    go_wp2_with fail
    refine HRD.out.mono ?_
    rintro e w1 ⟨rfl, hb1⟩
    have HB1 := Lib.hid hb1
    clear hb1 HRD
    by_cases hr : r = 0
    · subst hr
      have hmn : m ≤ n - n := by rcases hxc with h | h <;> first | exact absurd rfl h | exact h.2
      clear hxc
      by_cases hkx : k < x
      · have hkx' : (k : Int) < (x : Int) := by omega
        have HC2 := Lib.hid (show rc = (0, 0, 5) by rw [HC.out]; simp [hkx])
        clear hkx HC
        go_wp2_with fail
        go_ret3
        exact ⟨by rw [HC2.out]; rfl, HB1.out⟩
      · have hkx' : ¬ (k : Int) < (x : Int) := by omega
        have hxk : (x : Int) ≤ 252 := by omega
        have HC2 := Lib.hid (show rc = (x, n + m, 0) by rw [HC.out]; simp [hkx])
        clear HC hkx
        go_wp2_with fail
        go_ret3
        exact ⟨by rw [HC2.out]; rfl, HB1.out⟩
    · have hr1 : (r != 0) = true := by rw [bne_iff_ne]; exact hr
      have HC2 := Lib.hid (show rc = (0, 0, r) by rw [HC.out]; simp [hr])
      clear hr HC hxc
      go_wp2_with fail
      go_ret3
      exact ⟨by rw [HC2.out]; rfl, HB1.out⟩
  · have HRD := HRD (off + p) hat0
    have hcp' : ¬ (c : Int) = (p : Int) := by omega
    have hpc : (p : Int) ≤ (c : Int) := by omega
    have hpn : (p : Int) ≤ (n : Int) := by omega
    clear hatc hat0
    go_enter Try.func53, Try.ntmps53
    go_wp2_with fail
    refine HRD.out.mono ?_
    rintro e w1 ⟨rfl, hb1⟩
    have HB1 := Lib.hid hb1
    clear hb1 HRD
    by_cases hr : r = 0
    · subst hr
      have hmn : m ≤ n - p := by rcases hxc with h | h <;> first | exact absurd rfl h | exact h.2
      clear hxc
      by_cases hkx : k < x
      · have hkx' : (k : Int) < (x : Int) := by omega
        have HC2 := Lib.hid (show rc = (0, 0, 5) by rw [HC.out]; simp [hkx])
        clear hkx HC
        go_wp2_with fail
        go_ret3
        exact ⟨by rw [HC2.out]; rfl, HB1.out⟩
      · have hkx' : ¬ (k : Int) < (x : Int) := by omega
        have hxk : (x : Int) ≤ 252 := by omega
        have HC2 := Lib.hid (show rc = (x, p + m, 0) by rw [HC.out]; simp [hkx])
        clear HC hkx
        go_wp2_with fail
        go_ret3
        exact ⟨by rw [HC2.out]; rfl, HB1.out⟩
    · have hr1 : (r != 0) = true := by rw [bne_iff_ne]; exact hr
      have HC2 := Lib.hid (show rc = (0, 0, r) by rw [HC.out]; simp [hr])
      clear hr HC hxc
      go_wp2_with fail
      go_ret3
      exact ⟨by rw [HC2.out]; rfl, HB1.out⟩
set_option maxHeartbeats 1000000 in
theorem rhash_any (A : Option Addr) (c B : Nat) (l : List UInt8) (w : World) (hl : l.length = 32) (hat : BytesAt w B A l) (hB : B ≤ w.heap.size) :
    Calls Try.prog 54 #[.slice A 32 c] w fun e w' => e = .returned (.agg (bytesArr l)) ∧ Below w.heap.size w w' := by
  obtain ⟨zs, hzs⟩ : ∃ zs, zs = bytesArr (List.replicate 32 (0 : UInt8)) := ⟨_, rfl⟩
  have hzz := zero_hash
  rw [← hzs] at hzz
  have HZ := Lib.hid hzz
  have HZS := Lib.hid hzs
  have HZN := Lib.hid (show zs.size = 32 by rw [hzs]; simp [bytesArr])
  obtain ⟨w0, hw0⟩ : ∃ w0, w0 = (w.alloc (.cells zs 45)).alloc (.cells zs 45) := ⟨_, rfl⟩
  have HB0 := Lib.hid (show Below w.heap.size w w0 by rw [hw0]; exact Joins.below_alloc2 _ _ _)
  have HR0 := Lib.hid (show Bk w0 w.heap.size 45 zs by rw [hw0]; exact (Bk.new _ _ _).alloc _)
  have hK1 : Bk w0 (w.heap.size + 1) 45 zs := by
    rw [hw0]
    have := Bk.new (w.alloc (.cells zs 45)) 45 zs
    simpa using this
  rw [hzs] at hK1
  obtain ⟨w2, hcp, kb2, kk2⟩ := copy_row_bytes 45 w0 (w.heap.size + 1) 0 32 32 B 32 A (List.replicate 32 0) l hK1 (At.below hat (HB0.out.mono hB)) hl (by omega) (by simp)
  have e32 : (List.replicate 32 (0 : UInt8)).take 0 ++ l.take 32 ++ (List.replicate 32 (0 : UInt8)).drop (0 + 32) = l := by
    rw [List.take_zero, List.nil_append, List.take_of_length_le (by omega), List.drop_of_length_le (by simp), List.append_nil]
  rw [e32] at kb2
  obtain ⟨cs, hcs⟩ : ∃ cs, cs = bytesArr l := ⟨_, rfl⟩
  rw [← hcs] at kb2
  have HSZ := Lib.hid (show cs.size = 32 by rw [hcs]; simpa [bytesArr] using hl)
  have HONE := Lib.hid (show cs.all (·.oneCell') = true by rw [hcs]; exact all_oneCell_toArray (oneCell_bytes _))
  have HCS := Lib.hid hcs
  have HKB := Lib.hid kb2
  have HR2 := Lib.hid (HR0.out.kp kk2 (by omega))
  have HK2 := Lib.hid kk2
  have HCP := Lib.hid hcp
  clear hcp kb2 kk2 hcs hK1 e32 hzs hzz hat
  go_enter Try.func54, Try.ntmps54
  go_upto_region 2 with (first
    | (refine wpList_allocOf rfl 45 rfl zs HZ.out ?_))
  rw [← hw0]
  clear hw0
  have hcp := HCP.out
  go_wp2_with (first
    | (refine wpList_load_row rfl 45 (.tmp 3) rfl (w.heap.size + 1) (by rfl) 45 cs (0, 0) _ HKB.out Try.underlying45 rfl (by rw [HSZ.out]; exact size_hash) ?_)
    | (refine wpList_store_row rfl 45 (.tmp 2) (.tmp 7) rfl w.heap.size cs (by rfl) (by rfl) 45 zs HR2.out (by rw [HSZ.out]; exact size_hash) (by rw [HZN.out, HSZ.out]) HONE.out ?_))
  have hk2 : Below w.heap.size w w2 := Kp.from_elder HB0.out HK2.out (fun i hi => by omega)
  refine bodyPost_ret (results_cell_row rfl _ _ w.heap.size 45 cs (0, 0) _ rfl (setRow_heap _ _ _ _ _ _ HR2.out) Try.underlying45 rfl (by rw [HSZ.out]; exact size_hash)) rfl ⟨by rw [HCS.out], ?_⟩
  exact Kp.from_elder hk2 (Kp.setRow7 (S := fun i => i = w.heap.size) (Kp.refl _ _) (fun _ => rfl) _) (fun i hi => by omega)
end Go.Proofs.Ytanjlgkbjcienaa.T7
