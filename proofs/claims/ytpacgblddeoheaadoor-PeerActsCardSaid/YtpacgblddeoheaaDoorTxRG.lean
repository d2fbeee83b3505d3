/- TxRG, merged: TxRGet, TxRGet2. -/
import Derived.Test.YtpacgblddeoheaaDoorTxGet
import Derived.Test.YtpacgblddeoheaaDoorRefO
import Derived.Test.YtpacgblddeoheaaDoorTxBuilt
/- The document's Get: its parts. -/
namespace Go.Proofs.YtpacgblddeoheaaDoor.T7
open Go.RowKit Go.Deep
set_option linter.unusedVariables false
set_option linter.unusedSimpArgs false
set_option maxRecDepth 100000
attribute [local go_sem ↓] Go.wp_at_zero Go.wp_at_succ

/-- what count answers: how many, where it ends, an error -/
def rcnt (b : List UInt8) (p most : Nat) : Nat × Nat × Int := ((Txs.count (b.drop p) most).1, if (Txs.count (b.drop p) most).2.2 = 0 then p + (Txs.count (b.drop p) most).2.1 else 0, (Txs.count (b.drop p) most).2.2)
set_option maxHeartbeats 1000000 in
theorem rcount_any (A : Option Addr) (n c B : Nat) (b : List UInt8) (p k : Nat) (w : World) (hl : b.length = n) (hc : n ≤ c) (hm : c ≤ maxLen) (hn : n ≤ 140737488351232) (hat : BytesAt w B A b) (hB : B ≤ w.heap.size) (hp : p ≤ n) (hn0 : 0 < n) (hk : k < 253) :
    Calls Tryd.prog 97 #[.slice A n c, .int .i64 (p : Int), .int .u64 (k : Int)] w fun e w' =>
      e = .returned (.tuple #[.int .i64 ((rcnt b p k).1 : Int), .int .i64 ((rcnt b p k).2.1 : Int), .int .i64 (rcnt b p k).2.2]) ∧ Below w.heap.size w w' := by
  unfold maxLen at hm
  obtain ⟨q, off, rfl, -, -⟩ := hat.cell (i := 0) (by omega)
  obtain ⟨x, m, r, hx, hxc⟩ : ∃ x m r, Oct.read (b.drop p) = (x, m, r) ∧ (r ≠ 0 ∨ (r = 0 ∧ m ≤ n - p)) := by
    refine ⟨_, _, _, rfl, ?_⟩
    rcases Oct.read_back (b.drop p) with ⟨h1, _⟩ | ⟨h1, _, _, h4, _⟩
    · exact .inl h1
    · rw [List.length_drop, hl] at h4; exact .inr ⟨h1, h4⟩
  have hV := readV_of hx
  obtain ⟨rb1, rb2⟩ := read_bounds (b.drop p)
  rw [hx] at rb1 rb2
  simp only at rb1 rb2
  have HC : Hid (rcnt b p k = if r ≠ 0 then (0, 0, r) else if k < x then (0, 0, 5) else (x, p + m, 0)) := Lib.hid (by
    unfold rcnt Txs.count
    rw [hx]
    by_cases hr : r = 0
    · subst hr
      by_cases hk : k < x
      · simp [hk]
      · simp [hk]
    · simp [hr])
  have HX1 := Lib.hid rb1
  have hxb : (x : Int) ≤ 18446744073709551615 := by omega
  have HRD := fun o' (hat' : BytesAt w B (some ⟨q, o', none⟩) (b.drop p)) => Lib.hid (rread_any (some ⟨q, o', none⟩) (n - p) (c - p) B (b.drop p) w (by rw [List.length_drop, hl]) (by omega) (by unfold maxLen; omega) hB hat')
  rw [hV] at HRD
  have hat0 := hat.drop p
  have hatc : c = p → BytesAt w B (some ⟨q, off, none⟩) (b.drop p) := fun e => by
    have : b.drop p = [] := List.drop_of_length_le (by omega)
    rw [this]; exact fun i hi => by simp at hi
  generalize rcnt b p k = rc at *
  clear hx hV rb1 hat
  have hend : ∀ (W : World), Below w.heap.size w W → Below w.heap.size w W := fun _ h => h
  clear hend
  by_cases hcp : c = p
  · have HRD := HRD off (hatc hcp)
    obtain rfl : n = c := by omega
    subst hcp
    have hnn : n - n = 0 := by omega
    rw [hnn] at HRD
    clear hatc hat0 hnn
    go_enter Tryd.func97, Tryd.ntmps97
    go_wp2_with fail
    refine HRD.out.mono ?_
    rintro e w1 ⟨rfl, hb1⟩
    have HB1 := Lib.hid hb1
    clear hb1 HRD
    by_cases hr : r = 0
    · subst hr
      have hmn : m ≤ n - n := by rcases hxc with h | h <;> first | exact absurd rfl h | exact h.2
      clear hxc
      by_cases hkx : k < x
      · have hkx' : (k : Int) < (x : Int) := by omega
        have HC2 := Lib.hid (show rc = (0, 0, 5) by rw [HC.out]; simp [hkx])
        clear hkx HC
        go_wp2_with fail
        go_ret3
        exact ⟨by rw [HC2.out]; rfl, HB1.out⟩
      · have hkx' : ¬ (k : Int) < (x : Int) := by omega
        have hxk : (x : Int) ≤ 252 := by omega
        have HC2 := Lib.hid (show rc = (x, n + m, 0) by rw [HC.out]; simp [hkx])
        clear HC hkx
        go_wp2_with fail
        go_ret3
        exact ⟨by rw [HC2.out]; rfl, HB1.out⟩
    · have hr1 : (r != 0) = true := by rw [bne_iff_ne]; exact hr
      have HC2 := Lib.hid (show rc = (0, 0, r) by rw [HC.out]; simp [hr])
      clear hr HC hxc
      go_wp2_with fail
      go_ret3
      exact ⟨by rw [HC2.out]; rfl, HB1.out⟩
  · have HRD := HRD (off + p) hat0
    have hcp' : ¬ (c : Int) = (p : Int) := by omega
    have hpc : (p : Int) ≤ (c : Int) := by omega
    have hpn : (p : Int) ≤ (n : Int) := by omega
    clear hatc hat0
    go_enter Tryd.func97, Tryd.ntmps97
    go_wp2_with fail
    refine HRD.out.mono ?_
    rintro e w1 ⟨rfl, hb1⟩
    have HB1 := Lib.hid hb1
    clear hb1 HRD
    by_cases hr : r = 0
    · subst hr
      have hmn : m ≤ n - p := by rcases hxc with h | h <;> first | exact absurd rfl h | exact h.2
      clear hxc
      by_cases hkx : k < x
      · have hkx' : (k : Int) < (x : Int) := by omega
        have HC2 := Lib.hid (show rc = (0, 0, 5) by rw [HC.out]; simp [hkx])
        clear hkx HC
        go_wp2_with fail
        go_ret3
        exact ⟨by rw [HC2.out]; rfl, HB1.out⟩
      · have hkx' : ¬ (k : Int) < (x : Int) := by omega
        have hxk : (x : Int) ≤ 252 := by omega
        have HC2 := Lib.hid (show rc = (x, p + m, 0) by rw [HC.out]; simp [hkx])
        clear HC hkx
        go_wp2_with fail
        go_ret3
        exact ⟨by rw [HC2.out]; rfl, HB1.out⟩
    · have hr1 : (r != 0) = true := by rw [bne_iff_ne]; exact hr
      have HC2 := Lib.hid (show rc = (0, 0, r) by rw [HC.out]; simp [hr])
      clear hr HC hxc
      go_wp2_with fail
      go_ret3
      exact ⟨by rw [HC2.out]; rfl, HB1.out⟩
set_option maxHeartbeats 1000000 in
theorem rhash_any (A : Option Addr) (c B : Nat) (l : List UInt8) (w : World) (hl : l.length = 32) (hat : BytesAt w B A l) (hB : B ≤ w.heap.size) :
    Calls Tryd.prog 98 #[.slice A 32 c] w fun e w' => e = .returned (.agg (bytesArr l)) ∧ Below w.heap.size w w' := by
  obtain ⟨zs, hzs⟩ : ∃ zs, zs = bytesArr (List.replicate 32 (0 : UInt8)) := ⟨_, rfl⟩
  have hzz := zero_hash
  rw [← hzs] at hzz
  have HZ := Lib.hid hzz
  have HZS := Lib.hid hzs
  have HZN := Lib.hid (show zs.size = 32 by rw [hzs]; simp [bytesArr])
  obtain ⟨w0, hw0⟩ : ∃ w0, w0 = (w.alloc (.cells zs 93)).alloc (.cells zs 93) := ⟨_, rfl⟩
  have HB0 := Lib.hid (show Below w.heap.size w w0 by rw [hw0]; exact Joins.below_alloc2 _ _ _)
  have HR0 := Lib.hid (show Bk w0 w.heap.size 93 zs by rw [hw0]; exact (Bk.new _ _ _).alloc _)
  have hK1 : Bk w0 (w.heap.size + 1) 93 zs := by
    rw [hw0]
    have := Bk.new (w.alloc (.cells zs 93)) 93 zs
    simpa using this
  rw [hzs] at hK1
  obtain ⟨w2, hcp, kb2, kk2⟩ := copy_row_bytes 93 w0 (w.heap.size + 1) 0 32 32 B 32 A (List.replicate 32 0) l hK1 (At.below hat (HB0.out.mono hB)) hl (by omega) (by simp)
  have e32 : (List.replicate 32 (0 : UInt8)).take 0 ++ l.take 32 ++ (List.replicate 32 (0 : UInt8)).drop (0 + 32) = l := by
    rw [List.take_zero, List.nil_append, List.take_of_length_le (by omega), List.drop_of_length_le (by simp), List.append_nil]
  rw [e32] at kb2
  obtain ⟨cs, hcs⟩ : ∃ cs, cs = bytesArr l := ⟨_, rfl⟩
  rw [← hcs] at kb2
  have HSZ := Lib.hid (show cs.size = 32 by rw [hcs]; simpa [bytesArr] using hl)
  have HONE := Lib.hid (show cs.all (·.oneCell') = true by rw [hcs]; exact all_oneCell_toArray (oneCell_bytes _))
  have HCS := Lib.hid hcs
  have HKB := Lib.hid kb2
  have HR2 := Lib.hid (HR0.out.kp kk2 (by omega))
  have HK2 := Lib.hid kk2
  have HCP := Lib.hid hcp
  clear hcp kb2 kk2 hcs hK1 e32 hzs hzz hat
  go_enter Tryd.func98, Tryd.ntmps98
  go_upto_region 2 with (first
    | (refine wpList_allocOf rfl 93 rfl zs HZ.out ?_))
  rw [← hw0]
  clear hw0
  have hcp := HCP.out
  go_wp2_with (first
    | (refine wpList_load_row rfl 93 (.tmp 3) rfl (w.heap.size + 1) (by rfl) 93 cs (0, 0) _ HKB.out Tryd.underlying93 rfl (by rw [HSZ.out]; exact size_hash) ?_)
    | (refine wpList_store_row rfl 93 (.tmp 2) (.tmp 7) rfl w.heap.size cs (by rfl) (by rfl) 93 zs HR2.out (by rw [HSZ.out]; exact size_hash) (by rw [HZN.out, HSZ.out]) HONE.out ?_))
  have hk2 : Below w.heap.size w w2 := Kp.from_elder HB0.out HK2.out (fun i hi => by omega)
  refine bodyPost_ret (results_cell_row rfl _ _ w.heap.size 93 cs (0, 0) _ rfl (setRow_heap _ _ _ _ _ _ HR2.out) Tryd.underlying93 rfl (by rw [HSZ.out]; exact size_hash)) rfl ⟨by rw [HCS.out], ?_⟩
  exact Kp.from_elder hk2 (Kp.setRow7 (S := fun i => i = w.heap.size) (Kp.refl _ _) (fun _ => rfl) _) (fun i hi => by omega)
end Go.Proofs.YtpacgblddeoheaaDoor.T7
/- The document's Get. -/
namespace Go.Proofs.YtpacgblddeoheaaDoor.T7
open Go.RowKit Go.Deep
set_option linter.unusedVariables false
set_option linter.unusedSimpArgs false
set_option maxRecDepth 100000
attribute [local go_sem ↓] Go.wp_at_zero Go.wp_at_succ

theorem empty_own9 (w : World) : OwnB (w.alloc (.cells #[] 5)) w.heap.size (.slice (some ⟨w.heap.size, 0, none⟩) 0 0) [] := Bk.own (bs := []) (Bk.new _ _ _) (Nat.le_refl _) (by simp [maxLen])
theorem own_low9 {w w' : World} {B base : Nat} {e : TypeId} {size : Nat} {v : Value} {n : Nat} {xs : List Value} (hg : w.grownBy w' v.ownBlock) (h : w.ownsRow base e size v n xs) (hB : B ≤ base) (hs : B ≤ w.heap.size) : Below B w w' :=
  ⟨hg.os, hg.tape, hg.output, hg.size, fun i hi => hg.block i (by omega) (fun e => by have := (h.lt i e.symm).1; omega)⟩
/-- one round of the inputs -/
theorem getIns_round (b : List UInt8) (k p : Nat) (acc : List Txs.In) :
    Txs.getIns b (k + 1) p acc = if b.length < p + 36 then (0, [], 4) else if (rcnt b (p + 36) 64).2.2 ≠ 0 then (0, [], (rcnt b (p + 36) 64).2.2)
      else if b.length < (rcnt b (p + 36) 64).2.1 + (rcnt b (p + 36) 64).1 then (0, [], 4)
      else Txs.getIns b k ((rcnt b (p + 36) 64).2.1 + (rcnt b (p + 36) 64).1) (acc ++ [⟨(b.drop p).take 32, Oct.val ((b.drop (p + 32)).take 4), (b.drop (rcnt b (p + 36) 64).2.1).take (rcnt b (p + 36) 64).1⟩]) := by
  rw [Txs.getIns]
  unfold rcnt
  by_cases h0 : b.length < p + 36
  · rw [if_pos h0, if_pos h0]
  · rw [if_neg h0, if_neg h0]
    by_cases h1 : (Txs.count (b.drop (p + 36)) 64).2.2 = 0
    · simp only [h1, ne_eq, not_true_eq_false, if_false, if_true]
    · simp only [h1, ne_eq, not_false_eq_true, if_true, if_false]
theorem getRest_of (b : List UInt8) (p : Nat) (acc : List Txs.In) :
    Txs.getRest b (p, acc, 0) = if (rcnt b p 8).2.2 ≠ 0 then (Txs.none, 0, (rcnt b p 8).2.2)
      else if (Txs.getOuts b (rcnt b p 8).1 (rcnt b p 8).2.1 []).2.2 ≠ 0 then (Txs.none, 0, (Txs.getOuts b (rcnt b p 8).1 (rcnt b p 8).2.1 []).2.2)
      else (⟨Oct.val (b.take 4), acc, (Txs.getOuts b (rcnt b p 8).1 (rcnt b p 8).2.1 []).2.1⟩, (Txs.getOuts b (rcnt b p 8).1 (rcnt b p 8).2.1 []).1, 0) := by
  unfold Txs.getRest rcnt
  simp only [ne_eq, not_true_eq_false, if_false]
  by_cases h1 : (Txs.count (b.drop p) 8).2.2 = 0
  · simp only [h1, not_true_eq_false, if_false, if_true]
  · simp only [h1, not_false_eq_true, if_true, if_false]
theorem get_of {b : List UInt8} (h4 : ¬ b.length < 4) : Txs.get b = if (rcnt b 4 8).2.2 ≠ 0 then (Txs.none, 0, (rcnt b 4 8).2.2) else Txs.getRest b (Txs.getIns b (rcnt b 4 8).1 (rcnt b 4 8).2.1 []) := by
  unfold Txs.get rcnt
  rw [if_neg h4]
  by_cases h1 : (Txs.count (b.drop 4) 8).2.2 = 0
  · simp only [h1, ne_eq, not_true_eq_false, if_false, if_true]
  · simp only [h1, ne_eq, not_false_eq_true, if_true, if_false]
theorem rcnt_le {b : List UInt8} {p k : Nat} (hk : k < 253) (hp : p ≤ b.length) (h : (rcnt b p k).2.2 = 0) : (rcnt b p k).1 ≤ k ∧ (rcnt b p k).2.1 ≤ b.length := by
  unfold rcnt at *
  simp only at *
  rcases Txs.count_back (b := b.drop p) (most := k) hk with ⟨h1, _⟩ | ⟨h1, h2, h3, h4, _⟩
  · exact absurd h h1
  · rw [if_pos h1, h3]
    rw [List.length_drop] at h4
    exact ⟨h2, by omega⟩
theorem wpList_new {P : Program} {ops : Array Oper} {rest : List Oper} {o2 o3 : Oper} {a : Act} {w : World} {Q : Exit → Act → World → Prop} (g2 : o2.guard = none) (g3 : o3.guard = none)
    (T : TypeId) (p v : Operand) (h2 : o2.op = .alloc T) (h3 : o3.op = .store T p v) (cs : Array Value)
    (hp : (a.put o2.dst (.pointer (some ⟨w.heap.size, 0, none⟩))).eval p = .pointer (some ⟨w.heap.size, 0, none⟩)) (hv : (a.put o2.dst (.pointer (some ⟨w.heap.size, 0, none⟩))).eval v = .agg cs)
    (hi : (P.info? T).map (·.size) = some cs.size) (zs : Array Value) (hz : (P.info? T).map (·.zero) = some (some (.agg zs))) (hzl : zs.size = cs.size) (hone : cs.all (·.oneCell') = true)
    (h : wpList P ops Q rest ((a.put o2.dst (.pointer (some ⟨w.heap.size, 0, none⟩))).put o3.dst undef) (w.alloc (.cells cs T))) : wpList P ops Q (o2 :: o3 :: rest) a w := by
  refine wpList_allocOf g2 T h2 zs hz ?_
  refine wpList_store_row g3 T p v h3 w.heap.size cs hp hv T zs (heap_alloc_new w _) hi hzl hone ?_
  rw [World.setRow_alloc_new]
  exact h
theorem wpList_built9 {P : Program} {ops : Array Oper} {rest : List Oper} {o : Oper} {a : Act} {w : World} {Q : Exit → Act → World → Prop} (hg : o.guard = none) (t : TypeId) (parts : Array (Nat × Operand)) (ho : o.op = .build t parts)
    (cells : Array Value) (hf : P.built t (parts.map fun (i, x) => (i, a.eval x)).toList = some cells)
    (h : wpList P ops Q rest (a.put o.dst (.agg cells)) w) : wpList P ops Q (o :: rest) a w :=
  wpList_build hg t parts ho (by rw [hf]; rfl) (by rw [hf]; exact h)
set_option maxHeartbeats 8000000 in
theorem rget_walk (A : Option Addr) (n c B : Nat) (b : List UInt8) (w : World) (hl : b.length = n) (hc : n ≤ c) (hm : c ≤ maxLen) (hn : n ≤ 140737488351232) (hat : BytesAt w B A b) (hB : B ≤ w.heap.size) :
    Calls Tryd.prog 83 #[.slice A n c] w fun e w' => GetOut7 w w' (Txs.get b) e := by
  obtain ⟨w2, hw2⟩ : ∃ w2, w2 = (w.alloc (.cells (txCells 0 (.slice none 0 0) (.slice none 0 0)) 49)).alloc (.cells (txCells 0 (.slice none 0 0) (.slice none 0 0)) 49) := ⟨_, rfl⟩
  have hw2' : w2 = (w.alloc (.cells #[.int .u32 0, .slice none 0 0, .slice none 0 0] 49)).alloc (.cells #[.int .u32 0, .slice none 0 0, .slice none 0 0] 49) := hw2
  have HW := Lib.hid (show Below w.heap.size w w2 by rw [hw2]; exact Joins.below_alloc2 _ _ _)
  have HZ := Lib.hid (show w2.heap.size = w.heap.size + 2 by rw [hw2]; simp)
  have HR2 := Lib.hid (show Bk w2 w.heap.size 49 (txCells 0 (.slice none 0 0) (.slice none 0 0)) by rw [hw2]; exact (Bk.new _ _ _).alloc _)
  have HT2 := Lib.hid (show Bk w2 (w.heap.size + 1) 49 (txCells 0 (.slice none 0 0) (.slice none 0 0)) by
    rw [hw2]
    have := Bk.new (w.alloc (.cells (txCells 0 (.slice none 0 0) (.slice none 0 0)) 49)) 49 (txCells 0 (.slice none 0 0) (.slice none 0 0))
    simpa using this)
  have HL := Lib.hid hl
  have HAT := Lib.hid hat
  clear hw2
  by_cases h4 : n < 4
  · have h4' : (n : Int) < 4 := by omega
    have HEND := Lib.hid (show Txs.get b = (Txs.none, 0, 4) by unfold Txs.get; rw [if_pos (by omega)])
    clear h4 hl hat
    go_enter Tryd.func83, Tryd.ntmps83
    go_upto_region 2 with (fail)
    rw [← hw2']
    clear hw2'
    have r0 : w2.cell? ⟨w.heap.size, 0, none⟩ = some (.int .u32 0) := (HR2.out.cell 0).trans rfl
    have r1 : w2.cell? ⟨w.heap.size, 1, none⟩ = some (.slice none 0 0) := (HR2.out.cell 1).trans rfl
    have r2 : w2.cell? ⟨w.heap.size, 2, none⟩ = some (.slice none 0 0) := (HR2.out.cell 2).trans rfl
    have fr0 := HR2.out.frozen 0
    have fr1 := HR2.out.frozen 1
    have fr2 := HR2.out.frozen 2
    go_wp2_with fail
    obtain ⟨wz, hwz⟩ : ∃ wz, wz = (((w2.setCell ⟨w.heap.size, 0, none⟩ (.int .u32 0)).setCell ⟨w.heap.size, 1, none⟩ (.slice none 0 0)).setCell ⟨w.heap.size, 2, none⟩ (.slice none 0 0)) := ⟨_, rfl⟩
    have hz : Bk wz w.heap.size 49 (txCells 0 (.slice none 0 0) (.slice none 0 0)) := by rw [hwz]; exact ((HR2.out.set 0 _).set 1 _).set 2 _
    have hkz : Kp (fun i => i = w.heap.size) w2 wz := by rw [hwz]; exact (((kp_cell1 _ _ _ _).trans (kp_cell1 _ _ _ _)).trans (kp_cell1 _ _ _ _))
    rw [← hwz]
    refine bodyPost_ret (results_row_tmp2 rfl _ _ w.heap.size 49 (txCells 0 (.slice none 0 0) (.slice none 0 0)) (0, 0) _ rfl hz Tryd.underlying49 rfl size_tx (.int .i64 0) (by rfl) (.int .i64 4) (by rfl)) rfl ?_
    refine ⟨none, 0, none, 0, ?_, ?_, Kp.from_elder HW.out hkz (fun i hi => by omega)⟩
    · rw [HEND.out]; rfl
    · rw [HEND.out]; exact none_new _ _
  have h4' : ¬ (n : Int) < 4 := by omega
  have hn0 : 0 < n := by omega
  have HGE := Lib.hid (get_of (b := b) (by omega))
  obtain ⟨q, off, rfl, -, -⟩ := hat.cell (i := 0) (by omega)
  have HM := Lib.hid hm
  unfold maxLen at hm
  have hl4 : (b.take 4).length = 4 := by rw [List.length_take]; omega
  have hv4 : Oct.val (b.take 4) < 4294967296 := by have := Oct.val_lt (b.take 4); rw [hl4] at this; exact this
  have HG0 := rget_yes (some ⟨q, off, none⟩) c B (b.take 4) (.inr (.inr (.inl hl4))) w2 (BytesAt.take (At.below hat (HW.out.mono hB)) 4)
  rw [hl4] at HG0
  have HG0 := Lib.hid HG0
  have HC0 := Lib.hid (fun W (hb : Below w.heap.size w W) => rcount_any (some ⟨q, off, none⟩) n c B b 4 8 W hl hc HM.out hn (At.below HAT.out (hb.mono hB)) (Nat.le_trans hB hb.size) (by omega) hn0 (by omega))
  have hrc := rcnt_le (b := b) (p := 4) (k := 8) (by omega) (by omega)
  have HRT := Lib.hid (fun p acc => getRest_of b p acc)
  generalize rcnt b 4 8 = r0 at *
  obtain ⟨k1, p1, e1⟩ := r0
  simp only at HC0 hrc HGE
  generalize hver : Oct.val (b.take 4) = ver at *
  have HVER := Lib.hid hver
  have hv4' : (ver : Int) ≤ 4294967295 := by omega
  have hc4 : (4 : Int) ≤ (c : Int) := by omega
  have t0 : w2.cell? ⟨w.heap.size + 1, 0, none⟩ = some (.int .u32 0) := (HT2.out.cell 0).trans rfl
  have ft0 := HT2.out.frozen 0
  clear hl hat hl4 hver
  go_enter Tryd.func83, Tryd.ntmps83
  go_upto_region 2 with (fail)
  rw [← hw2']
  clear hw2'
  go_wp2_with fail
  refine HG0.out.mono ?_
  rintro e w3 ⟨rfl, rfl⟩
  go_wp2_with fail
  obtain ⟨w4, hw4⟩ : ∃ w4, w4 = w2.setCell ⟨w.heap.size + 1, 0, none⟩ (.int .u32 (ver : Int)) := ⟨_, rfl⟩
  have HT4 := Lib.hid (show Bk w4 (w.heap.size + 1) 49 (txCells ver (.slice none 0 0) (.slice none 0 0)) by rw [hw4]; exact HT2.out.set 0 _)
  have HR4 := Lib.hid (show Bk w4 w.heap.size 49 (txCells 0 (.slice none 0 0) (.slice none 0 0)) by rw [hw4]; exact HR2.out.far (by simp) _)
  have HB4 := Lib.hid (show Below w.heap.size w w4 by rw [hw4]; exact HW.out.setCell (p := ⟨w.heap.size + 1, 0, none⟩) (by simp) _)
  rw [← hw4]
  clear hw4 t0 ft0
  refine (HC0.out w4 HB4.out).mono ?_
  rintro e w5 ⟨rfl, hb5⟩
  have HB5 := Lib.hid (HB4.out.trans (hb5.mono HB4.out.size))
  have HR5 := Lib.hid (HR4.out.below hb5 HR4.out.lt)
  have HT5 := Lib.hid (HT4.out.below hb5 HT4.out.lt)
  clear hb5 HC0
  by_cases he1 : e1 ≠ 0
  · have he' : (e1 != 0) = true := by rw [bne_iff_ne]; exact he1
    have HEND := Lib.hid (show Txs.get b = (Txs.none, 0, e1) by rw [HGE.out, if_pos he1])
    clear he1 hrc
    have r0 : w5.cell? ⟨w.heap.size, 0, none⟩ = some (.int .u32 0) := (HR5.out.cell 0).trans rfl
    have r1 : w5.cell? ⟨w.heap.size, 1, none⟩ = some (.slice none 0 0) := (HR5.out.cell 1).trans rfl
    have r2 : w5.cell? ⟨w.heap.size, 2, none⟩ = some (.slice none 0 0) := (HR5.out.cell 2).trans rfl
    have fr0 := HR5.out.frozen 0
    have fr1 := HR5.out.frozen 1
    have fr2 := HR5.out.frozen 2
    go_wp2_with fail
    obtain ⟨wz, hwz⟩ : ∃ wz, wz = (((w5.setCell ⟨w.heap.size, 0, none⟩ (.int .u32 0)).setCell ⟨w.heap.size, 1, none⟩ (.slice none 0 0)).setCell ⟨w.heap.size, 2, none⟩ (.slice none 0 0)) := ⟨_, rfl⟩
    have hz : Bk wz w.heap.size 49 (txCells 0 (.slice none 0 0) (.slice none 0 0)) := by rw [hwz]; exact ((HR5.out.set 0 _).set 1 _).set 2 _
    have hkz : Kp (fun i => i = w.heap.size) w5 wz := by rw [hwz]; exact (((kp_cell1 _ _ _ _).trans (kp_cell1 _ _ _ _)).trans (kp_cell1 _ _ _ _))
    rw [← hwz]
    refine bodyPost_ret (results_row_tmp2 rfl _ _ w.heap.size 49 (txCells 0 (.slice none 0 0) (.slice none 0 0)) (0, 0) _ rfl hz Tryd.underlying49 rfl size_tx (.int .i64 0) (by rfl) (.int .i64 e1) (by rfl)) rfl ?_
    refine ⟨none, 0, none, 0, ?_, ?_, Kp.from_elder HB5.out hkz (fun i hi => by omega)⟩
    · rw [HEND.out]; rfl
    · rw [HEND.out]; exact none_new _ _
  have he0 : e1 = 0 := by omega
  subst he0
  obtain ⟨hk8, hp1⟩ := hrc rfl
  have HGX := Lib.hid (show Txs.get b = Txs.getRest b (Txs.getIns b k1 p1 []) by rw [HGE.out, if_neg (by simp)])
  clear HGE
  have HGE := HGX
  clear HGX
  rw [HL.out] at hp1
  obtain ⟨base, hbase⟩ : ∃ base, base = w5.heap.size := ⟨_, rfl⟩
  have hbb : w.heap.size + 2 ≤ base := by rw [hbase]; exact HT5.out.lt
  obtain ⟨ri, hri⟩ : ∃ ri, ri = Txs.getIns b k1 p1 [] := ⟨_, rfl⟩
  rw [← hri] at HGE
  have HRI := Lib.hid hri.symm
  have HBS := Lib.hid hbase
  clear hri hbase he1 HR2 HT2 HR4 HT4 HB4 HW
  go_wp2_with fail
  go_loopw [9, 43] (fun pv iv wr => ∃ (j p : Nat) (vi : Value) (acc : List Txs.In), j ≤ k1 ∧ iv = .int .i64 (j : Int) ∧ pv = .int .i64 (p : Int) ∧ p ≤ n ∧ acc.length = j ∧ Hid (Txs.getIns b (k1 - j) p acc = ri) ∧ Hid (Bk wr w.heap.size 49 (txCells 0 (.slice none 0 0) (.slice none 0 0))) ∧ Hid (Bk wr (w.heap.size + 1) 49 (txCells ver vi (.slice none 0 0))) ∧ Hid (RowI wr base vi acc) ∧ Hid (Below w.heap.size w wr) ∧ Hid (base ≤ wr.heap.size)) (fun _ iv _ => k1 - (intOf iv).toNat)
  case atStart => exact ⟨0, p1, _, [], Nat.zero_le _, rfl, rfl, hp1, rfl, HRI, HR5, HT5, Lib.hid (RowI.nil _ _), HB5, Lib.hid (by rw [HBS.out]; exact Nat.le_refl _)⟩
  case round =>
    obtain ⟨j, p, vi, acc, hj, rfl, rfl, hp, hal, hri, HRS, HTX, HRW, HBE, hbs⟩ := hrel
    have hbs' := hbs.out
    have HAL := Lib.hid hal
    have hal8 : acc.length ≤ 8 := by omega
    clear hal
    by_cases hlt : j < k1
    · have hrr := hri.out
      obtain ⟨k', hk'⟩ : ∃ k', k1 - j = k' + 1 := ⟨k1 - j - 1, by omega⟩
      have HKK := Lib.hid (show k1 - (j + 1) = k' by omega)
      have hpb : p + 36 ≤ 281474976710656 := by omega
      rw [hk', getIns_round] at hrr
      by_cases h36 : n < p + 36
      · have h36' : (n : Int) - (p : Int) < 36 := by omega
        rw [if_pos (by rw [HL.out]; exact h36)] at hrr
        have HEND := Lib.hid (show Txs.get b = (Txs.none, 0, 4) by rw [HGE.out, ← hrr]; rfl)
        clear hrr hri h36 hk' HRI
        have r0 : wr.cell? ⟨w.heap.size, 0, none⟩ = some (.int .u32 0) := (HRS.out.cell 0).trans rfl
        have r1 : wr.cell? ⟨w.heap.size, 1, none⟩ = some (.slice none 0 0) := (HRS.out.cell 1).trans rfl
        have r2 : wr.cell? ⟨w.heap.size, 2, none⟩ = some (.slice none 0 0) := (HRS.out.cell 2).trans rfl
        have fr0 := HRS.out.frozen 0
        have fr1 := HRS.out.frozen 1
        have fr2 := HRS.out.frozen 2
        go_wp2_with fail
        obtain ⟨wz, hwz⟩ : ∃ wz, wz = (((wr.setCell ⟨w.heap.size, 0, none⟩ (.int .u32 0)).setCell ⟨w.heap.size, 1, none⟩ (.slice none 0 0)).setCell ⟨w.heap.size, 2, none⟩ (.slice none 0 0)) := ⟨_, rfl⟩
        have hz : Bk wz w.heap.size 49 (txCells 0 (.slice none 0 0) (.slice none 0 0)) := by rw [hwz]; exact ((HRS.out.set 0 _).set 1 _).set 2 _
        have hkz : Kp (fun i => i = w.heap.size) wr wz := by rw [hwz]; exact (((kp_cell1 _ _ _ _).trans (kp_cell1 _ _ _ _)).trans (kp_cell1 _ _ _ _))
        rw [← hwz]
        refine bodyPost_ret (results_row_tmp2 rfl _ _ w.heap.size 49 (txCells 0 (.slice none 0 0) (.slice none 0 0)) (0, 0) _ rfl hz Tryd.underlying49 rfl size_tx (.int .i64 0) (by rfl) (.int .i64 4) (by rfl)) rfl ?_
        refine ⟨none, 0, none, 0, ?_, ?_, Kp.from_elder HBE.out hkz (fun i hi => by omega)⟩
        · rw [HEND.out]; rfl
        · rw [HEND.out]; exact none_new _ _
      · have h36' : ¬ (n : Int) - (p : Int) < 36 := by omega
        rw [if_neg (by rw [HL.out]; omega)] at hrr
        have l32 : ((b.drop p).take 32).length = 32 := by rw [List.length_take, List.length_drop, HL.out]; omega
        have l4 : ((b.drop (p + 32)).take 4).length = 4 := by rw [List.length_take, List.length_drop, HL.out]; omega
        have hv4 : Oct.val ((b.drop (p + 32)).take 4) < 4294967296 := by have := Oct.val_lt ((b.drop (p + 32)).take 4); rw [l4] at this; exact this
        have HN4 := fun (o' c' : Nat) (ho : o' = off + (p + 32)) => rget_yes (some ⟨q, o', none⟩) c' B ((b.drop (p + 32)).take 4) (.inr (.inr (.inl l4))) wr (by subst ho; exact BytesAt.take (BytesAt.drop (At.below HAT.out (HBE.out.mono hB)) (p + 32)) 4)
        have HHS := fun (o' c' : Nat) (ho : o' = off + p) => rhash_any (some ⟨q, o', none⟩) c' B ((b.drop p).take 32) wr l32 (by subst ho; exact BytesAt.take (BytesAt.drop (At.below HAT.out (HBE.out.mono hB)) p) 32) (Nat.le_trans hB HBE.out.size)
        have HCN := fun W (hb : Below w.heap.size w W) => rcount_any (some ⟨q, off, none⟩) n c B b (p + 36) 64 W HL.out hc HM.out hn (At.below HAT.out (hb.mono hB)) (Nat.le_trans hB hb.size) (by omega) hn0 (by omega)
        have hrc := rcnt_le (b := b) (p := p + 36) (k := 64) (by omega) (by rw [HL.out]; omega)
        rw [l4] at HN4
        generalize rcnt b (p + 36) 64 = rc at *
        obtain ⟨kl, nx, er⟩ := rc
        simp only at HCN hrc hrr
        obtain ⟨x, hx⟩ : ∃ x : Txs.In, x = ⟨(b.drop p).take 32, Oct.val ((b.drop (p + 32)).take 4), (b.drop nx).take kl⟩ := ⟨_, rfl⟩
        rw [← hx] at hrr
        have e1 : (b.drop p).take 32 = x.hash := by rw [hx]
        have e2 : Oct.val ((b.drop (p + 32)).take 4) = x.n := by rw [hx]
        have HXE := Lib.hid (show (b.drop nx).take kl = x.key by rw [hx])
        rw [e1] at l32
        rw [e2] at hv4
        simp only [e1] at HHS
        simp only [e2] at HN4
        have HXO := Lib.hid (show x.Ok from ⟨l32, hv4⟩)
        have HXK := Lib.hid l32
        have HPL := Lib.hid (ptCells_len HXO.out)
        have HPO := Lib.hid (all_one (ptCells_one x))
        have hv4' : (x.n : Int) ≤ 4294967295 := by omega
        have HN4 := Lib.hid HN4
        have HHS := Lib.hid HHS
        have HCN := Lib.hid HCN
        have HRR := Lib.hid hrr
        have HRC := Lib.hid hrc
        have s1 : (p : Int) + 36 ≤ (c : Int) := by omega
        have s2 : (p : Int) + 36 ≤ (n : Int) := by omega
        have HZP := Lib.hid zero_pt
        clear hrr hrc hx e1 e2 l32 l4 hv4 hri hk' h36 HRI
        go_wp2_with fail
        refine (HN4.out _ _ (by omega)).mono ?_
        rintro e w' ⟨rfl, rfl⟩
        go_wp2_with fail
        refine (HHS.out _ _ (by omega)).mono ?_
        rintro e wq ⟨rfl, hbq⟩
        have HBQ := Lib.hid (HBE.out.trans (hbq.mono HBE.out.size))
        have HRSQ := Lib.hid (HRS.out.below hbq HRS.out.lt)
        have HTXQ := Lib.hid (HTX.out.below hbq HTX.out.lt)
        have HRWQ := Lib.hid (HRW.out.kp (Kp.of_below (S := fun _ => False) hbq) (fun _ _ _ h => h))
        have hqs := hbq.size
        have HRL := Lib.hid (fun i (h : vi.ownBlock = some i) => HRWQ.out.lt i h)
        have hwq2 : w.heap.size + 2 ≤ wq.heap.size := by omega
        obtain ⟨wx, hwx⟩ : ∃ wx, wx = wq.alloc (.cells (ptCells x).toArray 95) := ⟨_, rfl⟩
        have HBX := Lib.hid (show Below w.heap.size w wx by rw [hwx]; exact HBQ.out.alloc HBQ.out.size _)
        have HXR0 := Lib.hid (show wx.rangeAt wq.heap.size 0 (ptCells x) by rw [hwx]; exact bk_range (Bk.new _ _ _))
        have HZX := Lib.hid (show wx.heap.size = wq.heap.size + 1 by rw [hwx]; simp)
        have HRSX := Lib.hid (show Bk wx w.heap.size 49 (txCells 0 (.slice none 0 0) (.slice none 0 0)) by rw [hwx]; exact HRSQ.out.alloc _)
        have HTXX := Lib.hid (show Bk wx (w.heap.size + 1) 49 (txCells ver vi (.slice none 0 0)) by rw [hwx]; exact HTXQ.out.alloc _)
        have HRWX := Lib.hid (show RowI wx base vi acc by rw [hwx]; exact HRWQ.out.kp ((Kp.refl (fun _ => False) wq).alloc _) (fun _ _ _ h => h))
        clear hbq HRS HTX HRW HRSQ HTXQ HRWQ HBE HN4 HHS
        go_upto_region 15 with (first
          | (refine wpList_built9 rfl 95 _ rfl _ (by simpa [Act.eval] using built_pt7 x HXK.out) ?_)
          | (refine wpList_new rfl rfl 95 (.tmp 13) (.tmp 69) rfl rfl (ptCells x).toArray (by rfl) (by rfl) (by rw [List.size_toArray, HPL.out]; exact size_pt) _ HZP.out (by rw [zeroPt_len, List.size_toArray, HPL.out]) HPO.out ?_))
        rw [← hwx]
        clear hwx
        go_wp2_with fail
        refine (HCN.out wx HBX.out).mono ?_
        rintro e wc ⟨rfl, hbc⟩
        have HBC := Lib.hid (HBX.out.trans (hbc.mono HBX.out.size))
        have HRS := Lib.hid (HRSX.out.below hbc HRSX.out.lt)
        have HTX := Lib.hid (HTXX.out.below hbc HTXX.out.lt)
        have HRW := Lib.hid (HRWX.out.kp (Kp.of_below (S := fun _ => False) hbc) (fun _ _ _ h => h))
        have HXR := Lib.hid (rangeAt_below HXR0.out hbc (by rw [HZX.out]; omega))
        have hcs := hbc.size
        rw [HZX.out] at hcs
        clear hbc HRSX HTXX HRWX HBX HBQ HXR0 HCN
        by_cases he : er ≠ 0
        · have he' : (er != 0) = true := by rw [bne_iff_ne]; exact he
          have HEND := Lib.hid (show Txs.get b = (Txs.none, 0, er) by rw [HGE.out, ← HRR.out, if_pos he]; unfold Txs.getRest; rw [if_pos he])
          clear he
          have r0 : wc.cell? ⟨w.heap.size, 0, none⟩ = some (.int .u32 0) := (HRS.out.cell 0).trans rfl
          have r1 : wc.cell? ⟨w.heap.size, 1, none⟩ = some (.slice none 0 0) := (HRS.out.cell 1).trans rfl
          have r2 : wc.cell? ⟨w.heap.size, 2, none⟩ = some (.slice none 0 0) := (HRS.out.cell 2).trans rfl
          have fr0 := HRS.out.frozen 0
          have fr1 := HRS.out.frozen 1
          have fr2 := HRS.out.frozen 2
          go_wp2_with fail
          obtain ⟨wz, hwz⟩ : ∃ wz, wz = (((wc.setCell ⟨w.heap.size, 0, none⟩ (.int .u32 0)).setCell ⟨w.heap.size, 1, none⟩ (.slice none 0 0)).setCell ⟨w.heap.size, 2, none⟩ (.slice none 0 0)) := ⟨_, rfl⟩
          have hz : Bk wz w.heap.size 49 (txCells 0 (.slice none 0 0) (.slice none 0 0)) := by rw [hwz]; exact ((HRS.out.set 0 _).set 1 _).set 2 _
          have hkz : Kp (fun i => i = w.heap.size) wc wz := by rw [hwz]; exact (((kp_cell1 _ _ _ _).trans (kp_cell1 _ _ _ _)).trans (kp_cell1 _ _ _ _))
          rw [← hwz]
          refine bodyPost_ret (results_row_tmp2 rfl _ _ w.heap.size 49 (txCells 0 (.slice none 0 0) (.slice none 0 0)) (0, 0) _ rfl hz Tryd.underlying49 rfl size_tx (.int .i64 0) (by rfl) (.int .i64 er) (by rfl)) rfl ?_
          refine ⟨none, 0, none, 0, ?_, ?_, Kp.from_elder HBC.out hkz (fun i hi => by omega)⟩
          · rw [HEND.out]; rfl
          · rw [HEND.out]; exact none_new _ _
        obtain rfl : er = 0 := by omega
        obtain ⟨hkl, hnx⟩ := HRC.out rfl
        rw [HL.out] at hnx
        have HRR := Lib.hid (by have := HRR.out; rw [if_neg (by simp)] at this; exact this)
        clear he
        by_cases hs : n < nx + kl
        · have hs' : (n : Int) - (nx : Int) < (kl : Int) := by omega
          have HEND := Lib.hid (show Txs.get b = (Txs.none, 0, 4) by rw [HGE.out, ← HRR.out, if_pos (by rw [HL.out]; exact hs)]; rfl)
          clear hs
          have r0 : wc.cell? ⟨w.heap.size, 0, none⟩ = some (.int .u32 0) := (HRS.out.cell 0).trans rfl
          have r1 : wc.cell? ⟨w.heap.size, 1, none⟩ = some (.slice none 0 0) := (HRS.out.cell 1).trans rfl
          have r2 : wc.cell? ⟨w.heap.size, 2, none⟩ = some (.slice none 0 0) := (HRS.out.cell 2).trans rfl
          have fr0 := HRS.out.frozen 0
          have fr1 := HRS.out.frozen 1
          have fr2 := HRS.out.frozen 2
          go_wp2_with fail
          obtain ⟨wz, hwz⟩ : ∃ wz, wz = (((wc.setCell ⟨w.heap.size, 0, none⟩ (.int .u32 0)).setCell ⟨w.heap.size, 1, none⟩ (.slice none 0 0)).setCell ⟨w.heap.size, 2, none⟩ (.slice none 0 0)) := ⟨_, rfl⟩
          have hz : Bk wz w.heap.size 49 (txCells 0 (.slice none 0 0) (.slice none 0 0)) := by rw [hwz]; exact ((HRS.out.set 0 _).set 1 _).set 2 _
          have hkz : Kp (fun i => i = w.heap.size) wc wz := by rw [hwz]; exact (((kp_cell1 _ _ _ _).trans (kp_cell1 _ _ _ _)).trans (kp_cell1 _ _ _ _))
          rw [← hwz]
          refine bodyPost_ret (results_row_tmp2 rfl _ _ w.heap.size 49 (txCells 0 (.slice none 0 0) (.slice none 0 0)) (0, 0) _ rfl hz Tryd.underlying49 rfl size_tx (.int .i64 0) (by rfl) (.int .i64 4) (by rfl)) rfl ?_
          refine ⟨none, 0, none, 0, ?_, ?_, Kp.from_elder HBC.out hkz (fun i hi => by omega)⟩
          · rw [HEND.out]; rfl
          · rw [HEND.out]; exact none_new _ _
        · have hs' : ¬ (n : Int) - (nx : Int) < (kl : Int) := by omega
          have HRR := Lib.hid (by have := HRR.out; rw [if_neg (by rw [HL.out]; exact hs)] at this; exact this)
          have HKL := Lib.hid (show ((b.drop nx).take kl).length = kl by rw [List.length_take, List.length_drop, HL.out]; omega)
          have s3 : (nx : Int) + (kl : Int) ≤ (c : Int) := by omega
          have s4 : (nx : Int) ≤ (nx : Int) + (kl : Int) := by omega
          have tc1 : wc.drew.cell? ⟨w.heap.size + 1, 1, none⟩ = some vi := (HTX.out.drew.cell 1).trans rfl
          have HTX := Lib.hid HTX.out.drew
          have hcs0 := HBC.out.size
          obtain ⟨ib, hi, hz0, hz1, hz2⟩ := info_parts byte_info
          have Bi := Lib.hid hi
          have Bz := Lib.hid hz0
          have Bz1 := Lib.hid hz1
          have Bz2 := Lib.hid hz2
          clear hi hz0 hz1 hz2
          obtain ⟨ii, hi, hz0, hz1, hz2⟩ := info_parts in_info
          have Ii := Lib.hid hi
          have Iz1 := Lib.hid hz1
          have Iz2 := Lib.hid hz2
          have hZI := zero_in
          have hZL := zeroIn_len
          generalize (inCells ⟨List.replicate 32 0, 0, []⟩ (.slice none 0 0)).toArray = zs at hZI hZL hz0
          have HZI := Lib.hid hZI
          have HIZ := Lib.hid hz0
          have HZL := Lib.hid hZL
          have hql : wq.heap.size < wc.heap.size := by omega
          have hwc2 : w.heap.size + 2 < wc.heap.size := by omega
          have q1 : IntKind.i64.wrap ((nx : Int) + (kl : Int)) = (nx : Int) + (kl : Int) := IntWalk.i64_in _ (by omega)
          have q2 : (0 : Int) ≤ (nx : Int) + (kl : Int) := by omega
          have q3 : ((nx : Int) + (kl : Int)).toNat = nx + kl := by omega
          obtain ⟨o9, ho9⟩ : ∃ o9, o9 = if c = nx then off else off + nx := ⟨_, rfl⟩
          have HO9 : Hid (∀ W, Below w.heap.size w W → BytesAt W B (some ⟨q, o9, none⟩) ((b.drop nx).take kl)) := Lib.hid (fun W hb => by
            by_cases e : c = nx
            · have : (b.drop nx).take kl = [] := by rw [List.drop_of_length_le (by rw [HL.out]; omega)]; simp
              rw [this]; exact fun i hi => by simp at hi
            · rw [ho9, if_neg e]; exact BytesAt.take (BytesAt.drop (At.below HAT.out (hb.mono hB)) nx) kl)
          have q4 : (if c = nx then some (⟨q, off, none⟩ : Addr) else some ⟨q, off + nx, none⟩) = some ⟨q, o9, none⟩ := by rw [ho9]; split <;> rfl
          clear hi hz0 hz1 hz2 hs hZI hZL ho9
          go_wp2_with fail
          refine wp_region_L ([(1, w.heap.size + 1, 1, [vi]), (2, wq.heap.size, 0, ptCells x)]) (by kernel_rfl) ?_
          refine wpAnyL_pure (i := 0) (v := ?_) rfl (by kernel_rfl) (by kernel_rfl) (by kernel_rfl) (fun _ _ _ h => h) (Or.inl ⟨by rfl, ?_⟩) ?_
          rotate_left
          · (intro w' _; go_simp <;> with_reducible rfl)
          simp only [Act.put, List.setIfInBounds_toArray, List.set_cons_zero, List.set_cons_succ, List.getElem_toArray, List.getElem_cons_zero, List.getElem_cons_succ]
          refine wpAnyL_read (i := 1) (v := vi) (w.heap.size + 1) (1) [vi] (.head _) (range_one (tc1)) rfl (by kernel_rfl) (by kernel_rfl) (by kernel_rfl) (fun _ _ _ h => h) (Or.inl ⟨by rfl, fun w' hSw => ?_⟩) ?_
          · (have hq := cell_one hSw; go_simp)
          simp only [Act.put, List.setIfInBounds_toArray, List.set_cons_zero, List.set_cons_succ, List.getElem_toArray, List.getElem_cons_zero, List.getElem_cons_succ]
          refine wpAnyL_load (i := 2) (wq.heap.size) (0) (ptCells x) (.tail _ (.head _)) (HXR.out) rfl (by kernel_rfl) (by kernel_rfl) (by kernel_rfl) (fun _ _ _ h => h) (by rfl) 95 (.tmp 13) rfl (by rfl) _ Tryd.underlying95 rfl (by rw [HPL.out]; exact size_pt) ?_
          simp only [Act.put, List.setIfInBounds_toArray, List.set_cons_zero, List.set_cons_succ, List.getElem_toArray, List.getElem_cons_zero, List.getElem_cons_succ]
          refine wpAnyL_pure (i := 4) (v := ?_) rfl (by kernel_rfl) (by kernel_rfl) (by kernel_rfl) (fun _ _ _ h => h) (Or.inl ⟨by rfl, ?_⟩) ?_
          rotate_left
          · (intro w' _; go_simp <;> with_reducible rfl)
          simp only [Act.put, List.setIfInBounds_toArray, List.set_cons_zero, List.set_cons_succ, List.getElem_toArray, List.getElem_cons_zero, List.getElem_cons_succ]
          refine wpAnyL_pure (i := 5) (v := ?_) rfl (by kernel_rfl) (by kernel_rfl) (by kernel_rfl) (fun _ _ _ h => h) (Or.inl ⟨by rfl, ?_⟩) ?_
          rotate_left
          · (intro w' _; go_simp <;> with_reducible rfl)
          simp only [Act.put, List.setIfInBounds_toArray, List.set_cons_zero, List.set_cons_succ, List.getElem_toArray, List.getElem_cons_zero, List.getElem_cons_succ]
          refine wpAnyL_pure (i := 6) (v := ?_) rfl (by kernel_rfl) (by kernel_rfl) (by kernel_rfl) (fun _ _ _ h => h) (Or.inl ⟨by rfl, ?_⟩) ?_
          rotate_left
          · (intro w' _; go_simp <;> with_reducible rfl)
          simp only [Act.put, List.setIfInBounds_toArray, List.set_cons_zero, List.set_cons_succ, List.getElem_toArray, List.getElem_cons_zero, List.getElem_cons_succ]
          refine wpAnyL_pure (i := 7) (v := ?_) rfl (by kernel_rfl) (by kernel_rfl) (by kernel_rfl) (fun _ _ _ h => h) (Or.inl ⟨by rfl, ?_⟩) ?_
          rotate_left
          · (intro w' _; go_simp <;> with_reducible rfl)
          simp only [Act.put, List.setIfInBounds_toArray, List.set_cons_zero, List.set_cons_succ, List.getElem_toArray, List.getElem_cons_zero, List.getElem_cons_succ]
          refine wpAnyL_pure (i := 8) (v := ?_) rfl (by kernel_rfl) (by kernel_rfl) (by kernel_rfl) (fun _ _ _ h => h) (Or.inl ⟨by rfl, ?_⟩) ?_
          rotate_left
          · (intro w' _; go_simp <;> with_reducible rfl)
          simp only [Act.put, List.setIfInBounds_toArray, List.set_cons_zero, List.set_cons_succ, List.getElem_toArray, List.getElem_cons_zero, List.getElem_cons_succ]
          refine wpAnyL_pure (i := 9) (v := .slice (some ⟨q, o9, none⟩) kl (c - nx)) rfl (by kernel_rfl) (by kernel_rfl) (by kernel_rfl) (fun _ _ _ h => h) (Or.inl ⟨by rfl, ?_⟩) ?_
          · (intro w' _; go_simp)
          simp only [Act.put, List.setIfInBounds_toArray, List.set_cons_zero, List.set_cons_succ, List.getElem_toArray, List.getElem_cons_zero, List.getElem_cons_succ]
          clear q1 q3 q4
          refine wpAnyL_ready (rs := [3]) (by kernel_rfl) (by simp) ?_
          refine (AllReadyL.cons rfl (fun K hK => ?_) AllReadyL.nil)
          go_simp
          refine hK.out _ _ (Keeps.below (Joins.below_alloc1 _ _)) ?_
          clear hK K
          try simp only [Act.put, List.setIfInBounds_toArray, List.set_cons_zero, List.set_cons_succ, List.getElem_toArray, List.getElem_cons_zero, List.getElem_cons_succ]
          obtain ⟨w4, hw4⟩ : ∃ w4, w4 = (wc.alloc (.cells #[] 5)).drew := ⟨_, rfl⟩
          rw [← hw4]
          have HO4 := Lib.hid (show OwnB w4 wc.heap.size (.slice (some ⟨wc.heap.size, 0, none⟩) 0 0) [] by rw [hw4]; exact (empty_own9 wc).drew)
          have HB4 := Lib.hid (show Below wc.heap.size wc w4 by rw [hw4]; exact ((Below.refl _ _).alloc (Nat.le_refl _) _).drew)
          have HZ4 := Lib.hid (show w4.heap.size = wc.heap.size + 1 by rw [hw4]; simp)
          clear hw4
          have HS4 := Lib.hid (BytesAt.src (HO9.out w4 (HBC.out.trans (HB4.out.mono HBC.out.size))))
          refine wpAnyL_ready (rs := [10]) (by kernel_rfl) (by simp) ?_
          refine (AllReadyL.cons rfl (fun K hK => ?_) AllReadyL.nil)
          refine step_app _ rfl (.tmp 92) (.tmp 98) _ rfl wc.heap.size 5 ib _ 1 1 Tryd.underlying22 Bi.out Bz.out Bz1.out Bz2.out rfl (by decide) (.slice (some ⟨wc.heap.size, 0, none⟩) 0 0) 0 [] rfl HO4.out (some ⟨q, o9, none⟩) kl _ (((b.drop nx).take kl).map byteV) (by rfl) (by rw [List.length_map, HKL.out, Nat.mul_one]) HS4.out (oneCell_bytes _) (by unfold maxLen; omega) (by omega) (by rw [HZ4.out]; omega) ?_
          intro v5 w5 hrow5 hg5 hat5
          have hn5 : OwnB w5 wc.heap.size v5 ((b.drop nx).take kl) := by
            have := own_app (bs := []) hrow5 rfl HKL.out.symm
            simpa using this
          have hb45 : Below wc.heap.size w4 w5 := own_low9 hg5 HO4.out (Nat.le_refl _) (by rw [HZ4.out]; omega)
          refine hK.out _ _ (Keeps.kp (S := fun i => wc.heap.size ≤ i) ⟨hb45.os, hb45.tape, hb45.output, hb45.size, fun i hi hn => hb45.block i (Nat.lt_of_not_le hn)⟩ (by
            intro p hp _
            simp only [List.mem_cons, List.not_mem_nil, or_false] at hp
            rcases hp with rfl | rfl
            · show ¬ wc.heap.size ≤ w.heap.size + 1
              omega
            · show ¬ wc.heap.size ≤ wq.heap.size
              omega)) ?_
          clear hK K
          try simp only [Act.put, List.setIfInBounds_toArray, List.set_cons_zero, List.set_cons_succ, List.getElem_toArray, List.getElem_cons_zero, List.getElem_cons_succ]
          have hlk5 : ((b.drop nx).take kl).length = kl := HKL.out
          obtain ⟨A5, c5, hv5, h51, h52, h53, h54⟩ := hn5.at_
          rw [hlk5] at hv5
          subst hv5
          have HN5 := Lib.hid hn5
          have HB5 := Lib.hid (show Below wc.heap.size wc w5 from HB4.out.trans hb45)
          have hz5 := HB5.out.size
          have HKN := Lib.hid (show KeyN w5 wc.heap.size vi (.slice A5 ((b.drop nx).take kl).length c5) ((b.drop nx).take kl) from ⟨A5, c5, rfl, h51, h52, h53, fun a ha => ⟨(h54 a ha).1, fun e => by have := (HRL.out _ e).2; have := (h54 a ha).1; omega, (h54 a ha).2⟩⟩)
          rw [hlk5] at HKN
          clear hrow5 hg5 hat5 hn5 hb45 h51 h52 h53 h54 hlk5
          refine wpAnyL_pure (i := 11) (v := .agg (inCells x (.slice A5 kl c5)).toArray) rfl (by kernel_rfl) (by kernel_rfl) (by kernel_rfl) (fun _ _ _ h => h) (yieldsIf_build (by rfl) 97 _ rfl _ (by simpa [Act.eval] using built_in7 x A5 kl c5 HXK.out)) ?_
          simp only [Act.put, List.setIfInBounds_toArray, List.set_cons_zero, List.set_cons_succ, List.getElem_toArray, List.getElem_cons_zero, List.getElem_cons_succ]
          obtain ⟨cx, hcx⟩ : ∃ cx, cx = inCells x (.slice A5 kl c5) := ⟨_, rfl⟩
          rw [← hcx]
          have HCX := Lib.hid hcx
          have HCL := Lib.hid (show cx.length = 34 by rw [hcx]; exact inCells_len HXO.out _)
          have HC1 := Lib.hid (show ∀ u ∈ cx, u.oneCell' = true by rw [hcx]; exact inCells_one _ _ _ _)
          clear hcx
          refine wpAnyL_ready (rs := [12]) (by kernel_rfl) (by simp) ?_
          refine (AllReadyL.cons rfl (fun K hK => ?_) AllReadyL.nil)
          refine step_buildOne (by rfl) 46 97 (.tmp 100) rfl cx.toArray (by rfl) Tryd.underlying46 (by simp only [List.size_toArray, HCL.out]; exact size_in) zs HZI.out (by simp only [List.size_toArray, HCL.out]; omega) (by simp only [List.size_toArray, HCL.out]; omega) ?_
          refine hK.out _ _ (Keeps.below (Joins.below_alloc1 _ _)) ?_
          clear hK K
          try simp only [Act.put, List.setIfInBounds_toArray, List.set_cons_zero, List.set_cons_succ, List.getElem_toArray, List.getElem_cons_zero, List.getElem_cons_succ]
          obtain ⟨us, hus1, hus2, hus3⟩ := HRW.out.kp (Kp.of_below (S := fun _ => False) HB5.out) (fun _ _ _ h => h)
          obtain ⟨Ai, ci, hvi, _⟩ := own_form hus2
          subst hvi
          have HU1 := Lib.hid hus1
          have HU2 := Lib.hid hus2
          have HU3 := Lib.hid hus3
          clear hus1 hus2 hus3
          refine wpAnyL_ready (rs := [13]) (by kernel_rfl) (by simp) ?_
          refine (AllReadyL.cons rfl (fun K hK => ?_) AllReadyL.nil)
          refine step_app _ rfl (.tmp 90) (.tmp 101) _ rfl base 97 ii _ 34 64 Tryd.underlying46 Ii.out HIZ.out Iz1.out Iz2.out HZL.out (by decide) (.slice Ai acc.length ci) acc.length _ rfl (own_below HU2.out (Joins.below_alloc1 _ _)) (some ⟨w5.heap.size, 0, none⟩) 1 1 cx rfl (by rw [HCL.out]) (Src.new _ _ _) HC1.out (by unfold maxLen; omega) (by omega) (by simp; omega) ?_
          intro v7 w7 hrow7 hg7 hat7
          have HG7 := Lib.hid ((Grw.of_below (Joins.below_alloc1 _ _) _).trans (Grw.of_app hg7 hat7))
          have HNT := Lib.hid (show (Value.slice Ai acc.length ci).ownBlock ≠ some (w.heap.size + 1) from fun e => by have := (own_lt HU2.out _ e).1; omega)
          refine hK.out _ _ (Keeps.kp (Kp.mono (T := fun i => (Value.slice Ai acc.length ci).ownBlock = some i) (Kp.refl _ _ |>.grown hg7 (fun k hk _ => hk)) (fun _ _ h => h)) (by
            intro p hp _
            simp only [List.mem_cons, List.not_mem_nil, or_false] at hp
            rcases hp with rfl | rfl
            · exact HNT.out
            · intro e
              have := HRL.out wq.heap.size e
              omega)) ?_
          clear hK K
          try simp only [Act.put, List.setIfInBounds_toArray, List.set_cons_zero, List.set_cons_succ, List.getElem_toArray, List.getElem_cons_zero, List.getElem_cons_succ]
          have HTX5 : Bk w5 (w.heap.size + 1) 49 (txCells ver (.slice Ai acc.length ci) (.slice none 0 0)) := HTX.out.below (w := wc) (w' := w5) HB5.out (show w.heap.size + 1 < wc.heap.size by omega)
          have HT7 := Lib.hid ((HG7.out.bk HTX5 HNT.out).1)
          have t7 : w7.cell? ⟨w.heap.size + 1, 1, none⟩ = some (.slice Ai acc.length ci) := (HT7.out.cell 1).trans rfl
          have f7 := HT7.out.frozen 1
          have hrow7' := hrow7
          obtain ⟨A7, c7, rfl, _⟩ := own_form hrow7'
          refine wpAnyL_pure (i := 14) (v := ?_) rfl (by kernel_rfl) (by kernel_rfl) (by kernel_rfl) (fun _ _ _ h => h) (Or.inl ⟨by rfl, ?_⟩) ?_
          rotate_left
          · (intro w' _; go_simp <;> with_reducible rfl)
          simp only [Act.put, List.setIfInBounds_toArray, List.set_cons_zero, List.set_cons_succ, List.getElem_toArray, List.getElem_cons_zero, List.getElem_cons_succ]
          refine wpAnyL_ready (rs := [15]) (by kernel_rfl) (by simp) ?_
          refine (AllReadyL.cons rfl (fun K hK => ?_) AllReadyL.nil)
          go_simp
          refine hK.out _ _ (Keeps.last (by kernel_rfl) _ _) ?_
          clear hK K
          try simp only [Act.put, List.setIfInBounds_toArray, List.set_cons_zero, List.set_cons_succ, List.getElem_toArray, List.getElem_cons_zero, List.getElem_cons_succ]
          refine wpAnyL_done (by kernel_rfl) ?_ _
          go_wp2_with fail
          go_roundw
          case rel =>
            have hkp7 : Kp (fun i => i = w.heap.size + 1) w7 (w7.setCell ⟨w.heap.size + 1, 1, none⟩ (.slice A7 (acc.length + 1) c7)) := kp_cell1 _ _ _ _
            have hz7 := HG7.out.kp.size
            have hrow := RowI.push HU1.out (fun i hi => ⟨(HU3.out i hi).1, by obtain ⟨u, hu, hp⟩ := (HU3.out i hi).2; exact ⟨u, hu, hp.kp ((Kp.refl (fun _ => False) w5).alloc (.cells cx.toArray 97)) (fun _ _ _ h => h)⟩⟩)
              HXO.out (by rw [← HXE.out]; exact (HKN.out.mono (show base ≤ wc.heap.size by omega)).kp ((Kp.refl (fun _ => False) w5).alloc (.cells cx.toArray 97)) (fun _ _ _ h => h)) (by rw [← HCX.out]; exact hrow7) hg7 hat7
            have HBW5 : Below w.heap.size w w5 := HBC.out.trans (HB5.out.mono HBC.out.size)
            refine ⟨j + 1, nx + kl, .slice A7 (acc.length + 1) c7, acc ++ [x], by omega, by go_num, congrArg (Value.int .i64) (by omega), by omega, by rw [List.length_append, HAL.out]; rfl, Lib.hid (by rw [HKK.out]; exact HRR.out), Lib.hid ?_, Lib.hid ?_, Lib.hid ?_, Lib.hid ?_, Lib.hid ?_⟩
            · exact ((HRS.out.below HB5.out (by omega)).kp HG7.out.kp (fun e => by have := (own_lt HU2.out _ e).1; omega)).kp hkp7 (by omega)
            · exact HT7.out.set 1 _
            · exact hrow.kp hkp7 (by intro i hi; omega)
            · exact ((HBW5.trans ((HG7.out.below HU2.out (Nat.le_refl _) (by omega)).mono (by omega)))).setCell (by show w.heap.size ≤ w.heap.size + 1; omega) _
            · show base ≤ (w7.setCell _ _).heap.size
              simp; omega
          case measure => simp [intOf]; omega
    · obtain rfl : j = k1 := by omega
      have hrr := hri.out
      rw [Nat.sub_self, Txs.getIns] at hrr
      have HGX := Lib.hid (show Txs.get b = _ from by rw [HGE.out, ← hrr, HRT.out p acc])
      clear HGE
      have HGE := HGX
      clear HGX
      have hrc := rcnt_le (b := b) (p := p) (k := 8) (by omega) (by rw [HL.out]; exact hp)
      have HCN := fun W (hb : Below w.heap.size w W) => rcount_any (some ⟨q, off, none⟩) n c B b p 8 W HL.out hc HM.out hn (At.below HAT.out (hb.mono hB)) (Nat.le_trans hB hb.size) hp hn0 (by omega)
      generalize rcnt b p 8 = rc at *
      obtain ⟨k2, p2, e2⟩ := rc
      simp only at HCN hrc HGE
      have HCN := Lib.hid HCN
      clear hrr hri hlt hk8 HRI
      go_wp2_with fail
      refine (HCN.out wr HBE.out).mono ?_
      rintro e w6 ⟨rfl, hb6⟩
      have HB6 := Lib.hid (HBE.out.trans (hb6.mono HBE.out.size))
      have HR6 := Lib.hid (HRS.out.below hb6 HRS.out.lt)
      have HT6 := Lib.hid (HTX.out.below hb6 HTX.out.lt)
      have HRI6 := Lib.hid (HRW.out.kp (Kp.of_below (S := fun _ => False) hb6) (fun _ _ _ h => h))
      have hs6 := hb6.size
      clear hb6 HCN HRS HTX HRW
      by_cases he : e2 ≠ 0
      · have he' : (e2 != 0) = true := by rw [bne_iff_ne]; exact he
        have HEND := Lib.hid (show Txs.get b = (Txs.none, 0, e2) by rw [HGE.out, if_pos he])
        clear he hrc
        have r0 : w6.cell? ⟨w.heap.size, 0, none⟩ = some (.int .u32 0) := (HR6.out.cell 0).trans rfl
        have r1 : w6.cell? ⟨w.heap.size, 1, none⟩ = some (.slice none 0 0) := (HR6.out.cell 1).trans rfl
        have r2 : w6.cell? ⟨w.heap.size, 2, none⟩ = some (.slice none 0 0) := (HR6.out.cell 2).trans rfl
        have fr0 := HR6.out.frozen 0
        have fr1 := HR6.out.frozen 1
        have fr2 := HR6.out.frozen 2
        go_wp2_with fail
        obtain ⟨wz, hwz⟩ : ∃ wz, wz = (((w6.setCell ⟨w.heap.size, 0, none⟩ (.int .u32 0)).setCell ⟨w.heap.size, 1, none⟩ (.slice none 0 0)).setCell ⟨w.heap.size, 2, none⟩ (.slice none 0 0)) := ⟨_, rfl⟩
        have hz : Bk wz w.heap.size 49 (txCells 0 (.slice none 0 0) (.slice none 0 0)) := by rw [hwz]; exact ((HR6.out.set 0 _).set 1 _).set 2 _
        have hkz : Kp (fun i => i = w.heap.size) w6 wz := by rw [hwz]; exact (((kp_cell1 _ _ _ _).trans (kp_cell1 _ _ _ _)).trans (kp_cell1 _ _ _ _))
        rw [← hwz]
        refine bodyPost_ret (results_row_tmp2 rfl _ _ w.heap.size 49 (txCells 0 (.slice none 0 0) (.slice none 0 0)) (0, 0) _ rfl hz Tryd.underlying49 rfl size_tx (.int .i64 0) (by rfl) (.int .i64 e2) (by rfl)) rfl ?_
        refine ⟨none, 0, none, 0, ?_, ?_, Kp.from_elder HB6.out hkz (fun i hi => by omega)⟩
        · rw [HEND.out]; rfl
        · rw [HEND.out]; exact none_new _ _
      obtain rfl : e2 = 0 := by omega
      obtain ⟨hk2, hp2⟩ := hrc rfl
      rw [HL.out] at hp2
      have HGX := Lib.hid (by have := HGE.out; rw [if_neg (by simp)] at this; exact this)
      clear HGE
      have HGE := HGX
      clear HGX
      obtain ⟨ro, hro⟩ : ∃ ro, ro = Txs.getOuts b k2 p2 [] := ⟨_, rfl⟩
      rw [← hro] at HGE
      have HRO := Lib.hid hro.symm
      obtain ⟨base2, hb2⟩ : ∃ base2, base2 = w6.heap.size := ⟨_, rfl⟩
      have HB2 := Lib.hid hb2
      have hbb2 : w.heap.size + 2 ≤ base2 := by omega
      clear he hro hb2 hrc
      go_wp2_with fail
      go_loopw [9, 120] (fun pv iv wr => ∃ (j p : Nat) (vo : Value) (acco : List Txs.Out), j ≤ k2 ∧ iv = .int .i64 (j : Int) ∧ pv = .int .i64 (p : Int) ∧ p ≤ n ∧ acco.length = j ∧ Hid (Txs.getOuts b (k2 - j) p acco = ro) ∧ Hid (Bk wr w.heap.size 49 (txCells 0 (.slice none 0 0) (.slice none 0 0))) ∧ Hid (Bk wr (w.heap.size + 1) 49 (txCells ver vi vo)) ∧ Hid (RowO wr base2 vo acco) ∧ Hid (Kp (fun i => i = w.heap.size + 1) w6 wr) ∧ Hid (Below w.heap.size w wr) ∧ Hid (base2 ≤ wr.heap.size)) (fun _ iv _ => k2 - (intOf iv).toNat)
      case atStart => exact ⟨0, p2, _, [], Nat.zero_le _, rfl, rfl, hp2, rfl, HRO, HR6, HT6, Lib.hid (RowO.nil _ _), Lib.hid (Kp.refl _ _), HB6, Lib.hid (by rw [HB2.out]; exact Nat.le_refl _)⟩
      case round =>
        clear HRO HR6 HT6
        obtain ⟨i, p, vo, acco, hj, rfl, rfl, hp, hal2, hri, HRS, HTX, HRW, HIW, HBE, hbs2⟩ := hrel
        have hbs2' := hbs2.out
        have HAL2 := Lib.hid hal2
        have hal8' : acco.length ≤ 8 := by omega
        clear hal2
        by_cases hlt : i < k2
        · have hrr := hri.out
          obtain ⟨k', hk'⟩ : ∃ k', k2 - i = k' + 1 := ⟨k2 - i - 1, by omega⟩
          have HKK := Lib.hid (show k2 - (i + 1) = k' by omega)
          rw [hk', Txs.getOuts] at hrr
          by_cases h40 : n < p + 40
          · have h40' : (n : Int) - (p : Int) < 40 := by omega
            rw [if_pos (by rw [HL.out]; exact h40)] at hrr
            have HEND := Lib.hid (show Txs.get b = (Txs.none, 0, 4) by rw [HGE.out, ← hrr]; rfl)
            clear hrr hri h40 hk'
            have r0 : wr.cell? ⟨w.heap.size, 0, none⟩ = some (.int .u32 0) := (HRS.out.cell 0).trans rfl
            have r1 : wr.cell? ⟨w.heap.size, 1, none⟩ = some (.slice none 0 0) := (HRS.out.cell 1).trans rfl
            have r2 : wr.cell? ⟨w.heap.size, 2, none⟩ = some (.slice none 0 0) := (HRS.out.cell 2).trans rfl
            have fr0 := HRS.out.frozen 0
            have fr1 := HRS.out.frozen 1
            have fr2 := HRS.out.frozen 2
            go_wp2_with fail
            obtain ⟨wz, hwz⟩ : ∃ wz, wz = (((wr.setCell ⟨w.heap.size, 0, none⟩ (.int .u32 0)).setCell ⟨w.heap.size, 1, none⟩ (.slice none 0 0)).setCell ⟨w.heap.size, 2, none⟩ (.slice none 0 0)) := ⟨_, rfl⟩
            have hz : Bk wz w.heap.size 49 (txCells 0 (.slice none 0 0) (.slice none 0 0)) := by rw [hwz]; exact ((HRS.out.set 0 _).set 1 _).set 2 _
            have hkz : Kp (fun i => i = w.heap.size) wr wz := by rw [hwz]; exact (((kp_cell1 _ _ _ _).trans (kp_cell1 _ _ _ _)).trans (kp_cell1 _ _ _ _))
            rw [← hwz]
            refine bodyPost_ret (results_row_tmp2 rfl _ _ w.heap.size 49 (txCells 0 (.slice none 0 0) (.slice none 0 0)) (0, 0) _ rfl hz Tryd.underlying49 rfl size_tx (.int .i64 0) (by rfl) (.int .i64 4) (by rfl)) rfl ?_
            refine ⟨none, 0, none, 0, ?_, ?_, Kp.from_elder HBE.out hkz (fun i hi => by omega)⟩
            · rw [HEND.out]; rfl
            · rw [HEND.out]; exact none_new _ _
          · have h40' : ¬ (n : Int) - (p : Int) < 40 := by omega
            rw [if_neg (by rw [HL.out]; exact h40)] at hrr
            have l8 : ((b.drop p).take 8).length = 8 := by rw [List.length_take, List.length_drop, HL.out]; omega
            have l32 : ((b.drop (p + 8)).take 32).length = 32 := by rw [List.length_take, List.length_drop, HL.out]; omega
            have hv8 : Oct.val ((b.drop p).take 8) < 18446744073709551616 := by have := Oct.val_lt ((b.drop p).take 8); rw [l8] at this; exact this
            have HN8 := fun (o' c' : Nat) (ho : o' = off + p) => rget_yes (some ⟨q, o', none⟩) c' B ((b.drop p).take 8) (.inr (.inr (.inr l8))) wr (by subst ho; exact BytesAt.take (BytesAt.drop (At.below HAT.out (HBE.out.mono hB)) p) 8)
            have HHS := fun (o' c' : Nat) (W : World) (ho : o' = off + (p + 8)) (hb : Below w.heap.size w W) => rhash_any (some ⟨q, o', none⟩) c' B ((b.drop (p + 8)).take 32) W l32 (by subst ho; exact BytesAt.take (BytesAt.drop (At.below HAT.out (hb.mono hB)) (p + 8)) 32) (Nat.le_trans hB hb.size)
            rw [l8] at HN8
            obtain ⟨x, hx⟩ : ∃ x : Txs.Out, x = ⟨Oct.val ((b.drop p).take 8), (b.drop (p + 8)).take 32⟩ := ⟨_, rfl⟩
            rw [← hx] at hrr
            have e1 : (b.drop (p + 8)).take 32 = x.lock := by rw [hx]
            have e2 : Oct.val ((b.drop p).take 8) = x.value := by rw [hx]
            rw [e1] at l32
            rw [e2] at hv8
            simp only [e1] at HHS
            simp only [e2] at HN8
            have HXO := Lib.hid (show x.Ok from ⟨hv8, l32⟩)
            have HN8 := Lib.hid HN8
            have HHS := Lib.hid HHS
            have HRR := Lib.hid hrr
            have s1 : (p : Int) + 8 ≤ (c : Int) := by omega
            have s2 : (p : Int) ≤ (c : Int) := by omega
            clear hrr hx e1 e2 l32 l8 hv8 hri hk' h40
            go_wp2_with fail
            refine (HN8.out _ _ (by omega)).mono ?_
            rintro e w' ⟨rfl, rfl⟩
            have tc2 : wr.drew.cell? ⟨w.heap.size + 1, 2, none⟩ = some vo := (HTX.out.drew.cell 2).trans rfl
            have hcs0 := HBE.out.size
            obtain ⟨io, hi, hz0, hz1, hz2⟩ := info_parts out_info
            have Oi := Lib.hid hi
            have Oz1 := Lib.hid hz1
            have Oz2 := Lib.hid hz2
            have hZO := zero_out
            have hZL := zeroOut_len
            generalize (outCells ⟨0, List.replicate 32 0⟩).toArray = zs at hZO hZL hz0
            have HZO := Lib.hid hZO
            have HOZ := Lib.hid hz0
            have HZL := Lib.hid hZL
            have q1 : IntKind.i64.wrap ((p : Int) + 8) = (p : Int) + 8 := IntWalk.i64_in _ (by omega)
            have q5 : IntKind.i64.wrap ((p : Int) + 40) = (p : Int) + 40 := IntWalk.i64_in _ (by omega)
            have q2 : (0 : Int) ≤ (p : Int) + 8 := by omega
            have q6 : (0 : Int) ≤ (p : Int) + 40 := by omega
            have q3 : ((p : Int) + 8).toNat = p + 8 := by omega
            have q7 : ((p : Int) + 40).toNat = p + 40 := by omega
            have q8 : (p : Int) + 40 ≤ (c : Int) := by omega
            have q9 : ¬ c = p + 8 := by omega
            have q10 : p + 40 - (p + 8) = 32 := by omega
            clear hi hz0 hz1 hz2 hZO hZL
            go_wp2_with fail
            refine wp_region_L ([(1, w.heap.size + 1, 2, [vo])]) (by kernel_rfl) ?_
            refine wpAnyL_pure (i := 0) (v := ?_) rfl (by kernel_rfl) (by kernel_rfl) (by kernel_rfl) (fun _ _ _ h => h) (Or.inl ⟨by rfl, ?_⟩) ?_
            rotate_left
            · (intro w' _; go_simp <;> with_reducible rfl)
            simp only [Act.put, List.setIfInBounds_toArray, List.set_cons_zero, List.set_cons_succ, List.getElem_toArray, List.getElem_cons_zero, List.getElem_cons_succ]
            refine wpAnyL_read (i := 1) (v := vo) (w.heap.size + 1) (2) [vo] (.head _) (range_one (tc2)) rfl (by kernel_rfl) (by kernel_rfl) (by kernel_rfl) (fun _ _ _ h => h) (Or.inl ⟨by rfl, fun w' hSw => ?_⟩) ?_
            · (have hq := cell_one hSw; go_simp)
            simp only [Act.put, List.setIfInBounds_toArray, List.set_cons_zero, List.set_cons_succ, List.getElem_toArray, List.getElem_cons_zero, List.getElem_cons_succ]
            refine wpAnyL_pure (i := 2) (v := ?_) rfl (by kernel_rfl) (by kernel_rfl) (by kernel_rfl) (fun _ _ _ h => h) (Or.inl ⟨by rfl, ?_⟩) ?_
            rotate_left
            · (intro w' _; go_simp <;> with_reducible rfl)
            simp only [Act.put, List.setIfInBounds_toArray, List.set_cons_zero, List.set_cons_succ, List.getElem_toArray, List.getElem_cons_zero, List.getElem_cons_succ]
            refine wpAnyL_pure (i := 3) (v := ?_) rfl (by kernel_rfl) (by kernel_rfl) (by kernel_rfl) (fun _ _ _ h => h) (Or.inl ⟨by rfl, ?_⟩) ?_
            rotate_left
            · (intro w' _; go_simp <;> with_reducible rfl)
            simp only [Act.put, List.setIfInBounds_toArray, List.set_cons_zero, List.set_cons_succ, List.getElem_toArray, List.getElem_cons_zero, List.getElem_cons_succ]
            refine wpAnyL_pure (i := 4) (v := ?_) rfl (by kernel_rfl) (by kernel_rfl) (by kernel_rfl) (fun _ _ _ h => h) (Or.inl ⟨by rfl, ?_⟩) ?_
            rotate_left
            · (intro w' _; go_simp <;> with_reducible rfl)
            simp only [Act.put, List.setIfInBounds_toArray, List.set_cons_zero, List.set_cons_succ, List.getElem_toArray, List.getElem_cons_zero, List.getElem_cons_succ]
            refine wpAnyL_pure (i := 5) (v := ?_) rfl (by kernel_rfl) (by kernel_rfl) (by kernel_rfl) (fun _ _ _ h => h) (Or.inl ⟨by rfl, ?_⟩) ?_
            rotate_left
            · (intro w' _; go_simp <;> with_reducible rfl)
            simp only [Act.put, List.setIfInBounds_toArray, List.set_cons_zero, List.set_cons_succ, List.getElem_toArray, List.getElem_cons_zero, List.getElem_cons_succ]
            refine wpAnyL_pure (i := 6) (v := ?_) rfl (by kernel_rfl) (by kernel_rfl) (by kernel_rfl) (fun _ _ _ h => h) (Or.inl ⟨by rfl, ?_⟩) ?_
            rotate_left
            · (intro w' _; go_simp <;> with_reducible rfl)
            simp only [Act.put, List.setIfInBounds_toArray, List.set_cons_zero, List.set_cons_succ, List.getElem_toArray, List.getElem_cons_zero, List.getElem_cons_succ]
            refine wpAnyL_pure (i := 7) (v := ?_) rfl (by kernel_rfl) (by kernel_rfl) (by kernel_rfl) (fun _ _ _ h => h) (Or.inl ⟨by rfl, ?_⟩) ?_
            rotate_left
            · (intro w' _; go_simp <;> with_reducible rfl)
            simp only [Act.put, List.setIfInBounds_toArray, List.set_cons_zero, List.set_cons_succ, List.getElem_toArray, List.getElem_cons_zero, List.getElem_cons_succ]
            refine wpAnyL_pure (i := 8) (v := .slice (some ⟨q, off + (p + 8), none⟩) 32 (c - (p + 8))) rfl (by kernel_rfl) (by kernel_rfl) (by kernel_rfl) (fun _ _ _ h => h) (Or.inl ⟨by rfl, ?_⟩) ?_
            · (intro w' _; go_simp)
            simp only [Act.put, List.setIfInBounds_toArray, List.set_cons_zero, List.set_cons_succ, List.getElem_toArray, List.getElem_cons_zero, List.getElem_cons_succ]
            clear q1 q3 q5
            refine wpAnyL_ready (rs := [9]) (by kernel_rfl) (by simp) ?_
            refine (AllReadyL.cons rfl (fun K hK => ?_) AllReadyL.nil)
            go_simp
            refine (HHS.out _ _ _ rfl (HBE.out.drew)).mono ?_
            rintro e wh ⟨rfl, hbh⟩
            go_wp2_with fail
            refine hK.out _ _ (Keeps.below hbh) ?_
            clear hK K
            try simp only [Act.put, List.setIfInBounds_toArray, List.set_cons_zero, List.set_cons_succ, List.getElem_toArray, List.getElem_cons_zero, List.getElem_cons_succ]
            have HBH := Lib.hid (HBE.out.drew.trans (hbh.mono HBE.out.size))
            have HTH := Lib.hid (HTX.out.drew.below hbh HTX.out.lt)
            have HRH := Lib.hid (HRS.out.drew.below hbh HRS.out.lt)
            have HRWH := Lib.hid ((HRW.out.kp ((Kp.refl (fun _ => False) wr).drew) (fun _ _ _ h => h)).kp (Kp.of_below (S := fun _ => False) hbh) (fun _ _ _ h => h))
            have HIWH := Lib.hid (HIW.out.drew.trans_of (Kp.of_below (S := fun _ => False) hbh) (fun _ _ h => h.elim))
            have hhs : wr.heap.size ≤ wh.heap.size := hbh.size
            clear hbh
            refine wpAnyL_pure (i := 10) (v := .agg (outCells x).toArray) rfl (by kernel_rfl) (by kernel_rfl) (by kernel_rfl) (fun _ _ _ h => h) (yieldsIf_build (by rfl) 158 _ rfl _ (by simpa [Act.eval] using built_out7 x HXO.out.2)) ?_
            simp only [Act.put, List.setIfInBounds_toArray, List.set_cons_zero, List.set_cons_succ, List.getElem_toArray, List.getElem_cons_zero, List.getElem_cons_succ]
            obtain ⟨cx, hcx⟩ : ∃ cx, cx = outCells x := ⟨_, rfl⟩
            rw [← hcx]
            have HCX := Lib.hid hcx
            have HCL := Lib.hid (show cx.length = 33 by rw [hcx]; exact outCells_len HXO.out)
            have HC1 := Lib.hid (show ∀ u ∈ cx, u.oneCell' = true by rw [hcx]; exact outCells_one _)
            clear hcx
            refine wpAnyL_ready (rs := [11]) (by kernel_rfl) (by simp) ?_
            refine (AllReadyL.cons rfl (fun K hK => ?_) AllReadyL.nil)
            refine step_buildOne (by rfl) 47 158 (.tmp 147) rfl cx.toArray (by rfl) Tryd.underlying47 (by simp only [List.size_toArray, HCL.out]; exact size_out) zs HZO.out (by simp only [List.size_toArray, HCL.out]; omega) (by simp only [List.size_toArray, HCL.out]; omega) ?_
            refine hK.out _ _ (Keeps.below (Joins.below_alloc1 _ _)) ?_
            clear hK K
            try simp only [Act.put, List.setIfInBounds_toArray, List.set_cons_zero, List.set_cons_succ, List.getElem_toArray, List.getElem_cons_zero, List.getElem_cons_succ]
            obtain ⟨hrow2, hrok⟩ := HRWH.out
            obtain ⟨Ao, co, hvo, _⟩ := own_form hrow2
            subst hvo
            have HU2 := Lib.hid hrow2
            have HU3 := Lib.hid hrok
            clear hrow2 hrok
            refine wpAnyL_ready (rs := [12]) (by kernel_rfl) (by simp) ?_
            refine (AllReadyL.cons rfl (fun K hK => ?_) AllReadyL.nil)
            refine step_app _ rfl (.tmp 138) (.tmp 148) _ rfl base2 158 io _ 33 40 Tryd.underlying47 Oi.out HOZ.out Oz1.out Oz2.out HZL.out (by decide) (.slice Ao acco.length co) acco.length _ rfl (own_below HU2.out (Joins.below_alloc1 _ _)) (some ⟨wh.heap.size, 0, none⟩) 1 1 cx rfl (by rw [HCL.out]) (Src.new _ _ _) HC1.out (by unfold maxLen; omega) (by omega) (by simp; omega) ?_
            intro v7 w7 hrow7 hg7 hat7
            have HG7 := Lib.hid ((Grw.of_below (Joins.below_alloc1 _ _) _).trans (Grw.of_app hg7 hat7))
            have HNT := Lib.hid (show (Value.slice Ao acco.length co).ownBlock ≠ some (w.heap.size + 1) from fun e => by have := (own_lt HU2.out _ e).1; omega)
            refine hK.out _ _ (Keeps.kp (Kp.mono (T := fun i => (Value.slice Ao acco.length co).ownBlock = some i) (Kp.refl _ _ |>.grown hg7 (fun k hk _ => hk)) (fun _ _ h => h)) (by
              intro p hp _
              simp only [List.mem_cons, List.not_mem_nil, or_false] at hp
              rcases hp with rfl
              exact HNT.out)) ?_
            clear hK K
            try simp only [Act.put, List.setIfInBounds_toArray, List.set_cons_zero, List.set_cons_succ, List.getElem_toArray, List.getElem_cons_zero, List.getElem_cons_succ]
            have HT7 := Lib.hid ((HG7.out.bk HTH.out HNT.out).1)
            have t7 : w7.cell? ⟨w.heap.size + 1, 2, none⟩ = some (.slice Ao acco.length co) := (HT7.out.cell 2).trans rfl
            have f7 := HT7.out.frozen 2
            have hrow7' := hrow7
            obtain ⟨A7, c7, rfl, _⟩ := own_form hrow7'
            refine wpAnyL_pure (i := 13) (v := ?_) rfl (by kernel_rfl) (by kernel_rfl) (by kernel_rfl) (fun _ _ _ h => h) (Or.inl ⟨by rfl, ?_⟩) ?_
            rotate_left
            · (intro w' _; go_simp <;> with_reducible rfl)
            simp only [Act.put, List.setIfInBounds_toArray, List.set_cons_zero, List.set_cons_succ, List.getElem_toArray, List.getElem_cons_zero, List.getElem_cons_succ]
            refine wpAnyL_ready (rs := [14]) (by kernel_rfl) (by simp) ?_
            refine (AllReadyL.cons rfl (fun K hK => ?_) AllReadyL.nil)
            go_simp
            refine hK.out _ _ (Keeps.last (by kernel_rfl) _ _) ?_
            clear hK K
            try simp only [Act.put, List.setIfInBounds_toArray, List.set_cons_zero, List.set_cons_succ, List.getElem_toArray, List.getElem_cons_zero, List.getElem_cons_succ]
            refine wpAnyL_done (by kernel_rfl) ?_ _
            go_wp2_with fail
            go_roundw
            case rel =>
              have hkp7 : Kp (fun i => i = w.heap.size + 1) w7 (w7.setCell ⟨w.heap.size + 1, 2, none⟩ (.slice A7 (acco.length + 1) c7)) := kp_cell1 _ _ _ _
              have hz7 := HG7.out.kp.size
              refine ⟨i + 1, p + 40, .slice A7 (acco.length + 1) c7, acco ++ [x], by omega, by go_num, congrArg (Value.int .i64) (by omega), by omega, by rw [List.length_append, HAL2.out]; rfl, Lib.hid (by rw [HKK.out]; exact HRR.out), Lib.hid ?_, Lib.hid ?_, Lib.hid ?_, Lib.hid ?_, Lib.hid ?_, Lib.hid ?_⟩
              · exact (HRH.out.kp HG7.out.kp (fun e => by have := (own_lt HU2.out _ e).1; omega)).kp hkp7 (by omega)
              · exact HT7.out.set 2 _
              · exact (RowO.push HU3.out HXO.out (by rw [← HCX.out]; exact hrow7)).kp hkp7 (by intro i hi; omega)
              · exact (HIWH.out.trans_of HG7.out.kp (by intro i hi e; have := (own_lt HU2.out _ e).1; have := HB2.out; omega)).trans_of hkp7 (fun i _ h => h)
              · exact ((HBH.out.trans ((HG7.out.below HU2.out (Nat.le_refl _) (by omega)).mono (by omega)))).setCell (by show w.heap.size ≤ w.heap.size + 1; omega) _
              · show base2 ≤ (w7.setCell _ _).heap.size
                simp; omega
            case measure => simp [intOf]; omega
        · obtain rfl : i = k2 := by omega
          have hrr := hri.out
          rw [Nat.sub_self, Txs.getOuts] at hrr
          have HEND := Lib.hid (show Txs.get b = (⟨ver, acc, acco⟩, p, 0) by rw [HGE.out, ← hrr]; rfl)
          clear hrr hri hlt HGE HRT
          have RI := Lib.hid (HRI6.out.kp HIW.out (by intro i hi _ e; omega))
          obtain ⟨us, hus1, hus2, hus3⟩ := RI.out
          obtain ⟨Ai, ci, hvi, _⟩ := own_form hus2
          subst hvi
          obtain ⟨Ao, co, hvo, _⟩ := own_form HRW.out.1
          subst hvo
          have t0 : wr.cell? ⟨w.heap.size + 1, 0, none⟩ = some (.int .u32 (ver : Int)) := (HTX.out.cell 0).trans rfl
          have t1 : wr.cell? ⟨w.heap.size + 1, 1, none⟩ = some (.slice Ai acc.length ci) := (HTX.out.cell 1).trans rfl
          have t2 : wr.cell? ⟨w.heap.size + 1, 2, none⟩ = some (.slice Ao acco.length co) := (HTX.out.cell 2).trans rfl
          have r0 : wr.cell? ⟨w.heap.size, 0, none⟩ = some (.int .u32 0) := (HRS.out.cell 0).trans rfl
          have r1 : wr.cell? ⟨w.heap.size, 1, none⟩ = some (.slice none 0 0) := (HRS.out.cell 1).trans rfl
          have r2 : wr.cell? ⟨w.heap.size, 2, none⟩ = some (.slice none 0 0) := (HRS.out.cell 2).trans rfl
          have fr0 := HRS.out.frozen 0
          have fr1 := HRS.out.frozen 1
          have fr2 := HRS.out.frozen 2
          have HV4 := Lib.hid hv4
          clear hus1 hus2 hus3
          go_wp2_with fail
          obtain ⟨wz, hwz⟩ : ∃ wz, wz = (((wr.setCell ⟨w.heap.size, 0, none⟩ (.int .u32 (ver : Int))).setCell ⟨w.heap.size, 1, none⟩ (.slice Ai acc.length ci)).setCell ⟨w.heap.size, 2, none⟩ (.slice Ao acco.length co)) := ⟨_, rfl⟩
          have hz : Bk wz w.heap.size 49 (txCells ver (.slice Ai acc.length ci) (.slice Ao acco.length co)) := by rw [hwz]; exact ((HRS.out.set 0 _).set 1 _).set 2 _
          have hkz : Kp (fun i => i = w.heap.size) wr wz := by rw [hwz]; exact (((kp_cell1 _ _ _ _).trans (kp_cell1 _ _ _ _)).trans (kp_cell1 _ _ _ _))
          rw [← hwz]
          refine bodyPost_ret (results_row_tmp2 rfl _ _ w.heap.size 49 (txCells ver (.slice Ai acc.length ci) (.slice Ao acco.length co)) (0, 0) _ rfl hz Tryd.underlying49 rfl size_tx (.int .i64 (p : Int)) (by rfl) (.int .i64 0) (by rfl)) rfl ?_
          refine ⟨Ai, ci, Ao, co, ?_, ?_, Kp.from_elder HBE.out hkz (fun i hi => by omega)⟩
          · rw [HEND.out]; rfl
          · rw [HEND.out]
            intro wy hy
            have hI := ((RI.out.kp hkz (by intro i hi; omega)).kp hy (by intro i hi; omega)).at_
            have hO := ((HRW.out.kp hkz (by intro i hi; omega)).kp hy (by intro i hi; omega)).at_
            obtain ⟨A1, c1', e1, i1, i2, i3⟩ := hI
            obtain ⟨A2, c2', e2, o1, o2, o3⟩ := hO
            injection e1 with e1 _ e1'
            injection e2 with e2 _ e2'
            subst e1 e1' e2 e2'
            exact ⟨HV4.out, i1, i2, o1, o2, i3, o3⟩
end Go.Proofs.YtpacgblddeoheaaDoor.T7
