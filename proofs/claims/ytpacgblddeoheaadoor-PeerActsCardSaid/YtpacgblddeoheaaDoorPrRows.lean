/- Rows of what came, handed on and compared: the law's plain and same. -/
import Derived.Test.YtpacgblddeoheaaDoorPrRead
import Derived.Test.YtpacgblddeoheaaDoorMsgRT
namespace Go.Proofs.YtpacgblddeoheaaDoor.P22
open Go.RowKit Go.Deep M8 T7
set_option linter.unusedVariables false
set_option linter.unusedSimpArgs false
set_option maxRecDepth 100000
set_option maxHeartbeats 4000000
attribute [local go_sem ↓] Go.wp_at_zero Go.wp_at_succ

theorem read_no (b : Nat) (k : Int) (A : Option Addr) (n c : Nat) (w : World) (hk : k < 0 ∨ 2 ≤ k) :
    Calls Tryd.prog 10 #[.pointer (some ⟨b, 0, none⟩), .int .i64 k, .slice A n c] w fun e w' => e = .returned (.slice none 0 0) ∧ w' = w := by
  by_cases h0 : k < 0
  · clear hk
    go_enter Tryd.func10, Tryd.ntmps10
    go_wp2_with fail
    go_ret
    exact ⟨rfl, rfl⟩
  · have h1 : 0 ≤ k := by omega
    have h2 : 2 ≤ k := by omega
    clear hk
    go_enter Tryd.func10, Tryd.ntmps10
    go_wp2_with fail
    go_ret
    exact ⟨rfl, rfl⟩
theorem RowIn.range {T : TypeId} {w : World} {base : Nat} {A : Option Addr} {n c : Nat} {ps : List IP} (h : RowIn T w base (.slice A n c) ps) : n = ps.length ∧ n ≤ c ∧ c ≤ maxLen ∧ ∀ j (hj : j < ps.length), ∃ b, A = some ⟨b, 0, none⟩ ∧ b < w.heap.size ∧ w.rangeAt b (j * 8) (ipCells ps[j]) := by
  obtain ⟨A', c', hv, h1, h2, _, hc⟩ := own_form (show w.ownsRow _ _ _ _ _ _ from h)
  injection hv with q1 q2 q3
  subst q1 q3 q2
  refine ⟨rfl, h1, h2, fun j hj => ?_⟩
  have hcell : ∀ r (hr : r < 8), ∃ b, A = some ⟨b, 0, none⟩ ∧ b < w.heap.size ∧ w.cell? ⟨b, j * 8 + r, none⟩ = some ((ipCells ps[j])[r]'(by rw [ipCells_len]; exact hr)) := fun r hr => by
    obtain ⟨b, e1, _, e2, e3⟩ := hc (j * 8 + r) ((ipCells ps[j])[r]'(by rw [ipCells_len]; exact hr)) (by
      rw [flatMap_index ps (fun x _ => ipCells_len x) j hj r hr, List.getElem?_eq_getElem])
    exact ⟨b, e1, e2, e3⟩
  obtain ⟨b, hA, hb, _⟩ := hcell 0 (by omega)
  refine ⟨b, hA, hb, fun r u hu => ?_⟩
  obtain ⟨hr, rfl⟩ := List.getElem?_eq_some_iff.1 hu
  obtain ⟨b', hA', _, hcr⟩ := hcell r (by rw [ipCells_len] at hr; exact hr)
  rw [hA] at hA'
  injection hA' with hA'
  injection hA' with hA' _
  subst hA'
  exact hcr
theorem RowIn.kp {T : TypeId} {w w' : World} {base : Nat} {v : Value} {ps : List IP} {S : Nat → Prop} (h : RowIn T w base v ps) (hk : Kp S w w') (hv : ∀ i, v.ownBlock = some i → ¬ S i) : RowIn T w' base v ps := own_kp2 h hk hv
theorem built_rin2 (x : In) (A : Option Addr) (n c : Nat) (A1 : Option Addr) (n1 c1 : Nat) (A2 : Option Addr) (n2 c2 : Nat) :
    Tryd.prog.built 86 [(0, .agg #[.int .i64 x.msg.kind, .int .u64 (x.msg.n : Int), .int .u32 (x.msg.code : Int), .slice A n c, .int .u32 (x.msg.tx.version : Int), .slice A1 n1 c1, .slice A2 n2 c2]), (1, .int .i64 x.err)] = some (inCells x (.slice A n c) (.slice A1 n1 c1) (.slice A2 n2 c2)) := by kernel_rfl
theorem plain_any (T : Nat → Prop) (ps : List IP) (base : Nat) (A : Option Addr) (n c : Nat) (w : World) (hrow : RowIn 76 w base (.slice A n c) ps) (hall : ∀ p ∈ ps, InPers T w p) (hcnt : n ≤ 1000010000) :
    Calls Tryd.prog 9 #[.slice A n c] w fun e w' => ∃ rv, e = .returned rv ∧ RowIn 86 w' w.heap.size rv ps ∧ Below w.heap.size w w' := by
  obtain ⟨hnl, hnc, hcm, hrng⟩ := hrow.range
  have HN := Lib.hid hnl
  have HRNG := Lib.hid hrng
  have HALL := Lib.hid hall
  obtain ⟨ie, hi, hz0, hz1, hz2'⟩ := info_parts rin_info
  have Ii := Lib.hid hi
  have Iz := Lib.hid hz0
  have Iz1 := Lib.hid hz1
  have Iz2 := Lib.hid hz2'
  have HZR := Lib.hid (show (Tryd.prog.info? 86).map (·.zero) = some (some (.agg #[.int .i64 0, .int .u64 0, .int .u32 0, .slice none 0 0, .int .u32 0, .slice none 0 0, .slice none 0 0, .int .i64 0])) by rw [hi]; exact congrArg some hz0)
  obtain ⟨zi, hzi⟩ : ∃ zi : Array Value, zi = #[.int .i64 0, .int .u64 0, .int .u32 0, .slice none 0 0, .int .u32 0, .slice none 0 0, .slice none 0 0, .int .i64 0] := ⟨_, rfl⟩
  have HZI := Lib.hid (show (Tryd.prog.info? 76).map (·.zero) = some (some (.agg zi)) by rw [hzi]; kernel_rfl)
  have HZIL := Lib.hid (show zi.size = 8 by rw [hzi]; rfl)
  clear hrow hall hnl hrng hi hz0 hz1 hz2' hzi
  go_enter Tryd.func9, Tryd.ntmps9
  go_wp2_with fail
  go_loopw [3, 8] (fun rv iv wr => ∃ j : Nat, iv = .int .i64 (j : Int) ∧ j ≤ n ∧ Hid (wr.ownsRow w.heap.size 86 8 rv j ((ps.take j).flatMap ipCells)) ∧ Hid (Below w.heap.size w wr)) (fun _ iv _ => n - (intOf iv).toNat)
  case atStart => exact ⟨0, rfl, Nat.zero_le _, Lib.hid (World.ownsRow_nil _ _ _ _), Lib.hid (Below.refl _ _)⟩
  case round =>
    obtain ⟨j, rfl, hj, hrow, hbr⟩ := hrel
    obtain ⟨Ar, cr, rfl, _⟩ := own_form hrow.out
    by_cases hlt : j < n
    · have hlt1 : j < ps.length := by rw [← HN.out]; exact hlt
      obtain ⟨bi, rfl, hbl, hcells⟩ := HRNG.out j hlt1
      have hpp := HALL.out _ (List.getElem_mem hlt1)
      have HTK := Lib.hid (List.take_succ_eq_append_getElem hlt1)
      generalize ps[j] = p at *
      obtain ⟨A3, c3, A4, c4, A5, c5, q1, q2, q3, _⟩ := hpp
      obtain ⟨x, I, i, o⟩ := p
      simp only at q1 q2 q3
      subst q1 q2 q3
      obtain ⟨n3, hn3⟩ : ∃ n3, n3 = x.msg.ids.length := ⟨_, rfl⟩
      obtain ⟨n4, hn4⟩ : ∃ n4, n4 = x.msg.tx.ins.length := ⟨_, rfl⟩
      obtain ⟨n5, hn5⟩ : ∃ n5, n5 = x.msg.tx.outs.length := ⟨_, rfl⟩
      rw [← hn3, ← hn4, ← hn5] at hcells HTK
      have hce : ipCells (x, .slice A3 n3 c3, .slice A4 n4 c4, .slice A5 n5 c5) = (inCells x (.slice A3 n3 c3) (.slice A4 n4 c4) (.slice A5 n5 c5)).toList := rfl
      obtain ⟨cx, hcx⟩ : ∃ cx, cx = inCells x (.slice A3 n3 c3) (.slice A4 n4 c4) (.slice A5 n5 c5) := ⟨_, rfl⟩
      rw [hce, ← hcx] at hcells
      have HCE := Lib.hid (hce.trans (by rw [← hcx]))
      have HR := Lib.hid (show wr.rangeAt bi (j * 8) cx.toList from fun r u hu => (hbr.out.cell (p := ⟨bi, _, none⟩) hbl).trans (hcells r u hu))
      have HCS := Lib.hid (show cx.size = 8 by rw [hcx]; rfl)
      have HCO := Lib.hid (show ∀ u ∈ cx.toList, u.oneCell' = true by
        rw [hcx]
        intro u hu
        simp only [inCells, List.mem_cons, List.not_mem_nil, or_false] at hu
        rcases hu with rfl | rfl | rfl | rfl | rfl | rfl | rfl | rfl <;> rfl)
      have HCO2 := Lib.hid (show ∀ u ∈ (#[.int .i64 x.msg.kind, .int .u64 (x.msg.n : Int), .int .u32 (x.msg.code : Int), .slice A3 n3 c3, .int .u32 (x.msg.tx.version : Int), .slice A4 n4 c4, .slice A5 n5 c5, .int .i64 x.err] : Array Value).toList, u.oneCell' = true by
        intro u hu
        simp only [List.mem_cons, List.not_mem_nil, or_false] at hu
        rcases hu with rfl | rfl | rfl | rfl | rfl | rfl | rfl | rfl <;> rfl)
      have HCE2 := Lib.hid (show ipCells (x, .slice A3 n3 c3, .slice A4 n4 c4, .slice A5 n5 c5) = (#[.int .i64 x.msg.kind, .int .u64 (x.msg.n : Int), .int .u32 (x.msg.code : Int), .slice A3 n3 c3, .int .u32 (x.msg.tx.version : Int), .slice A4 n4 c4, .slice A5 n5 c5, .int .i64 x.err] : Array Value).toList from rfl)
      obtain ⟨wx, hwx⟩ : ∃ wx, wx = wr.alloc (.cells cx.toList.toArray 76) := ⟨_, rfl⟩
      obtain ⟨X, hX⟩ : ∃ X, X = wr.heap.size := ⟨_, rfl⟩
      have HBX := Lib.hid (show Below wr.heap.size wr wx by rw [hwx]; exact Joins.below_alloc1 _ _)
      have HXZ := Lib.hid (show wr.heap.size < wx.heap.size by rw [hwx]; simp)
      have HKX := Lib.hid (show Bk wx X 76 (inCells x (.slice A3 n3 c3) (.slice A4 n4 c4) (.slice A5 n5 c5)) by rw [hwx, hX, Array.toArray_toList, hcx]; exact Bk.new _ _ _)
      have k0 : wx.cell? ⟨X, 0, none⟩ = some (.int .i64 x.msg.kind) := (HKX.out.cell 0).trans rfl
      have k1 : wx.cell? ⟨X, 1, none⟩ = some (.int .u64 (x.msg.n : Int)) := (HKX.out.cell 1).trans rfl
      have k2 : wx.cell? ⟨X, 2, none⟩ = some (.int .u32 (x.msg.code : Int)) := (HKX.out.cell 2).trans rfl
      have k3 : wx.cell? ⟨X, 3, none⟩ = some (.slice A3 n3 c3) := (HKX.out.cell 3).trans rfl
      have k4 : wx.cell? ⟨X, 4, none⟩ = some (.int .u32 (x.msg.tx.version : Int)) := (HKX.out.cell 4).trans rfl
      have k5 : wx.cell? ⟨X, 5, none⟩ = some (.slice A4 n4 c4) := (HKX.out.cell 5).trans rfl
      have k6 : wx.cell? ⟨X, 6, none⟩ = some (.slice A5 n5 c5) := (HKX.out.cell 6).trans rfl
      have k7 : wx.cell? ⟨X, 7, none⟩ = some (.int .i64 x.err) := (HKX.out.cell 7).trans rfl
      have i4 : (0 : Int) ≤ (j : Int) := by omega
      have i5 : (j : Int) < (n : Int) := by omega
      have hz3 := hbr.out.size
      have hxz := HXZ.out
      have HOWN := Lib.hid (own_below hrow.out HBX.out)
      clear hcells hce hn3 hn4 hn5 hcx HKX
      go_upto_region 5 with (refine wpList_elem rfl rfl rfl 76 (.tmp 10) (.tmp 5) (.tmp 11) rfl rfl rfl bi (j * 8) (by rfl) cx.toList _ HR.out Tryd.underlying76 rfl (by rw [Array.length_toList, HCS.out]; exact size_in) zi HZI.out (by rw [HZIL.out, Array.length_toList, HCS.out]) HCO.out (by rfl) (by rfl) ?_)
      rw [← hwx, ← hX]
      clear hwx hX
      go_wp2_with (first
        | (refine wpList_buildOne rfl 28 86 (.tmp 17) rfl #[.int .i64 x.msg.kind, .int .u64 (x.msg.n : Int), .int .u32 (x.msg.code : Int), .slice A3 n3 c3, .int .u32 (x.msg.tx.version : Int), .slice A4 n4 c4, .slice A5 n5 c5, .int .i64 x.err] (by rfl) Tryd.underlying28 (by exact size_rin) #[.int .i64 0, .int .u64 0, .int .u32 0, .slice none 0 0, .int .u32 0, .slice none 0 0, .slice none 0 0, .int .i64 0] HZR.out (by decide) (by decide) ?_)
        | (at_builtin; go_must (refine wpList_app _ rfl (.tmp 12) (.tmp 18) _ rfl w.heap.size 86 ie _ 8 112 Tryd.underlying28 Ii.out Iz.out Iz1.out Iz2.out rfl (by decide) (.slice Ar j cr) j ((ps.take j).flatMap ipCells) (by rfl) (own_below HOWN.out (Joins.below_alloc1 _ _)) (some ⟨wx.heap.size, 0, none⟩) 1 1 (#[.int .i64 x.msg.kind, .int .u64 (x.msg.n : Int), .int .u32 (x.msg.code : Int), .slice A3 n3 c3, .int .u32 (x.msg.tx.version : Int), .slice A4 n4 c4, .slice A5 n5 c5, .int .i64 x.err] : Array Value).toList (by rfl) (by rfl) (by simpa using Src.new wx (#[.int .i64 x.msg.kind, .int .u64 (x.msg.n : Int), .int .u32 (x.msg.code : Int), .slice A3 n3 c3, .int .u32 (x.msg.tx.version : Int), .slice A4 n4 c4, .slice A5 n5 c5, .int .i64 x.err] : Array Value).toList 86) HCO2.out (by unfold maxLen; omega) (by omega) (by simp; omega) ?_); intro v6 w6 hrow6 hg6 hat6))
      have hkg : Kp (fun i => (Value.slice Ar j cr).ownBlock = some i) wx w6 := ((Kp.refl _ _).alloc _).trans ((Kp.refl _ _).grown hg6 (fun i h _ => h))
      have HKG := Lib.hid hkg
      have HLOW := Lib.hid (own_lt hrow.out)
      have HR6 := Lib.hid hrow6
      clear hrow6 hg6 hat6 hkg
      go_roundw
      case rel =>
        refine ⟨j + 1, by go_num, by omega, Lib.hid ?_, Lib.hid ?_⟩
        · rw [HTK.out, List.flatMap_append, List.flatMap_singleton, HCE2.out]
          exact HR6.out
        · exact Kp.from_elder (hbr.out.trans (HBX.out.mono hbr.out.size)) HKG.out (fun i hi h => by have := (HLOW.out i h).1; omega)
      case measure => simp [intOf]; omega
    · obtain rfl : j = n := by omega
      have ht : ps.take j = ps := List.take_of_length_le (by rw [← HN.out]; exact Nat.le_refl _)
      rw [ht] at hrow
      clear ht
      go_wp2_with fail
      go_ret
      refine ⟨_, rfl, ?_, hbr.out⟩
      show wr.ownsRow _ _ _ _ _ _
      rw [← HN.out]
      exact hrow.out
theorem same_yes (T T' : Nat → Prop) (ps qs : List IP) (base base' : Nat) (A A' : Option Addr) (n c c' : Nat) (w : World) (hrow : RowIn 86 w base (.slice A n c) ps) (hrow' : RowIn 86 w base' (.slice A' n c') qs) (hall : ∀ p ∈ ps, InPers T w p) (hall' : ∀ p ∈ qs, InPers T' w p) (heq : ps.map (·.1) = qs.map (·.1)) (hcnt : n ≤ 1000010000) :
    Calls Tryd.prog 11 #[.slice A n c, .slice A' n c'] w fun e w' => e = .returned (.bool true) ∧ Below w.heap.size w w' := by
  obtain ⟨hnl, hnc, hcm, hrng⟩ := hrow.range
  obtain ⟨hnl', hnc', hcm', hrng'⟩ := hrow'.range
  have HN := Lib.hid hnl
  have HN' := Lib.hid hnl'
  have HRNG := Lib.hid hrng
  have HRNG' := Lib.hid hrng'
  have HALL := Lib.hid hall
  have HALL' := Lib.hid hall'
  have HEQ := Lib.hid heq
  clear hrow hrow' hall hall' hnl hnl' hrng hrng' heq
  go_enter Tryd.func11, Tryd.ntmps11
  go_wp2_with fail
  go_loopw [13] (fun iv wr => ∃ j : Nat, iv = .int .i64 (j : Int) ∧ j ≤ n ∧ Hid (Below w.heap.size w wr)) (fun iv _ => n - (intOf iv).toNat)
  case atStart => exact ⟨0, rfl, Nat.zero_le _, Lib.hid (Below.refl _ _)⟩
  case round =>
    obtain ⟨j, rfl, hj, hbr⟩ := hrel
    by_cases hlt : j < n
    · have hlt1 : j < ps.length := by rw [← HN.out]; exact hlt
      have hlt2 : j < qs.length := by rw [← HN'.out]; exact hlt
      obtain ⟨bi, rfl, hbl, hcells⟩ := HRNG.out j hlt1
      obtain ⟨bj, rfl, hbl', hcells'⟩ := HRNG'.out j hlt2
      have hpp := HALL.out _ (List.getElem_mem hlt1)
      have hqq := HALL'.out _ (List.getElem_mem hlt2)
      have hpq : ps[j].1 = qs[j].1 := by
        have h := congrArg (fun l => l[j]?) HEQ.out
        simp only [List.getElem?_map, List.getElem?_eq_getElem hlt1, List.getElem?_eq_getElem hlt2, Option.map_some, Option.some.injEq] at h
        exact h
      generalize ps[j] = p at *
      generalize qs[j] = q at *
      obtain ⟨A3, c3, A4, c4, A5, c5, q1, q2, q3, hat⟩ := hpp
      obtain ⟨B3, d3, B4, d4, B5, d5, r1, r2, r3, hat'⟩ := hqq
      obtain ⟨x, I, i, o⟩ := p
      obtain ⟨y, I', i', o'⟩ := q
      simp only at q1 q2 q3 r1 r2 r3 hpq hat hat'
      subst hpq q1 q2 q3 r1 r2 r3
      have hat1 := hat w (Kp.refl _ _)
      have hat2 := hat' w (Kp.refl _ _)
      have HSM := Lib.hid (fun W (hW : Below wr.heap.size wr W) => rsame_self8 x.msg A3 A4 A5 B3 B4 B5 c3 c4 c5 d3 d4 d5 w.heap.size w.heap.size W (hat1.below (hbr.out.trans (hW.mono hbr.out.size))) (hat2.below (hbr.out.trans (hW.mono hbr.out.size))) (Nat.le_trans hbr.out.size hW.size) (Nat.le_trans hbr.out.size hW.size))
      unfold M8.msgV at HSM
      generalize x.msg.ids.length = n3 at *
      generalize x.msg.tx.ins.length = n4 at *
      generalize x.msg.tx.outs.length = n5 at *
      have k0 : wr.cell? ⟨bi, j * 8, none⟩ = some (.int .i64 x.msg.kind) := (hbr.out.cell (p := ⟨bi, j * 8, none⟩) hbl).trans (hcells 0 _ rfl)
      have k1 : wr.cell? ⟨bi, j * 8 + 1, none⟩ = some (.int .u64 (x.msg.n : Int)) := (hbr.out.cell (p := ⟨bi, j * 8 + 1, none⟩) hbl).trans (hcells 1 _ rfl)
      have k2 : wr.cell? ⟨bi, j * 8 + 2, none⟩ = some (.int .u32 (x.msg.code : Int)) := (hbr.out.cell (p := ⟨bi, j * 8 + 2, none⟩) hbl).trans (hcells 2 _ rfl)
      have k3 : wr.cell? ⟨bi, j * 8 + 3, none⟩ = some (.slice A3 n3 c3) := (hbr.out.cell (p := ⟨bi, j * 8 + 3, none⟩) hbl).trans (hcells 3 _ rfl)
      have k4 : wr.cell? ⟨bi, j * 8 + 4, none⟩ = some (.int .u32 (x.msg.tx.version : Int)) := (hbr.out.cell (p := ⟨bi, j * 8 + 4, none⟩) hbl).trans (hcells 4 _ rfl)
      have k5 : wr.cell? ⟨bi, j * 8 + 5, none⟩ = some (.slice A4 n4 c4) := (hbr.out.cell (p := ⟨bi, j * 8 + 5, none⟩) hbl).trans (hcells 5 _ rfl)
      have k6 : wr.cell? ⟨bi, j * 8 + 6, none⟩ = some (.slice A5 n5 c5) := (hbr.out.cell (p := ⟨bi, j * 8 + 6, none⟩) hbl).trans (hcells 6 _ rfl)
      have k7 : wr.cell? ⟨bi, j * 8 + 7, none⟩ = some (.int .i64 x.err) := (hbr.out.cell (p := ⟨bi, j * 8 + 7, none⟩) hbl).trans (hcells 7 _ rfl)
      have m0 : wr.cell? ⟨bj, j * 8, none⟩ = some (.int .i64 x.msg.kind) := (hbr.out.cell (p := ⟨bj, j * 8, none⟩) hbl').trans (hcells' 0 _ rfl)
      have m1 : wr.cell? ⟨bj, j * 8 + 1, none⟩ = some (.int .u64 (x.msg.n : Int)) := (hbr.out.cell (p := ⟨bj, j * 8 + 1, none⟩) hbl').trans (hcells' 1 _ rfl)
      have m2 : wr.cell? ⟨bj, j * 8 + 2, none⟩ = some (.int .u32 (x.msg.code : Int)) := (hbr.out.cell (p := ⟨bj, j * 8 + 2, none⟩) hbl').trans (hcells' 2 _ rfl)
      have m3 : wr.cell? ⟨bj, j * 8 + 3, none⟩ = some (.slice B3 n3 d3) := (hbr.out.cell (p := ⟨bj, j * 8 + 3, none⟩) hbl').trans (hcells' 3 _ rfl)
      have m4 : wr.cell? ⟨bj, j * 8 + 4, none⟩ = some (.int .u32 (x.msg.tx.version : Int)) := (hbr.out.cell (p := ⟨bj, j * 8 + 4, none⟩) hbl').trans (hcells' 4 _ rfl)
      have m5 : wr.cell? ⟨bj, j * 8 + 5, none⟩ = some (.slice B4 n4 d4) := (hbr.out.cell (p := ⟨bj, j * 8 + 5, none⟩) hbl').trans (hcells' 5 _ rfl)
      have m6 : wr.cell? ⟨bj, j * 8 + 6, none⟩ = some (.slice B5 n5 d5) := (hbr.out.cell (p := ⟨bj, j * 8 + 6, none⟩) hbl').trans (hcells' 6 _ rfl)
      have m7 : wr.cell? ⟨bj, j * 8 + 7, none⟩ = some (.int .i64 x.err) := (hbr.out.cell (p := ⟨bj, j * 8 + 7, none⟩) hbl').trans (hcells' 7 _ rfl)
      have hbl1 : bi < wr.drew.heap.size := Nat.lt_of_lt_of_le hbl hbr.out.size
      have hbl2 : bj < wr.drew.heap.size := Nat.lt_of_lt_of_le hbl' hbr.out.size
      have i4 : (0 : Int) ≤ (j : Int) := by omega
      have i5 : (j : Int) < (n : Int) := by omega
      have HJ := Lib.hid hlt
      clear hcells hcells' hat hat' hat1 hat2
      go_upto_region 6 with (fail)
      go_region_held3 (fun W => W.cell? ⟨bi, j * 8, none⟩ = some (.int .i64 x.msg.kind) ∧ W.cell? ⟨bi, j * 8 + 1, none⟩ = some (.int .u64 (x.msg.n : Int)) ∧ W.cell? ⟨bi, j * 8 + 2, none⟩ = some (.int .u32 (x.msg.code : Int)) ∧ W.cell? ⟨bi, j * 8 + 3, none⟩ = some (.slice A3 n3 c3) ∧ W.cell? ⟨bi, j * 8 + 4, none⟩ = some (.int .u32 (x.msg.tx.version : Int)) ∧ W.cell? ⟨bi, j * 8 + 5, none⟩ = some (.slice A4 n4 c4) ∧ W.cell? ⟨bi, j * 8 + 6, none⟩ = some (.slice A5 n5 c5) ∧ W.cell? ⟨bi, j * 8 + 7, none⟩ = some (.int .i64 x.err) ∧ W.cell? ⟨bj, j * 8, none⟩ = some (.int .i64 x.msg.kind) ∧ W.cell? ⟨bj, j * 8 + 1, none⟩ = some (.int .u64 (x.msg.n : Int)) ∧ W.cell? ⟨bj, j * 8 + 2, none⟩ = some (.int .u32 (x.msg.code : Int)) ∧ W.cell? ⟨bj, j * 8 + 3, none⟩ = some (.slice B3 n3 d3) ∧ W.cell? ⟨bj, j * 8 + 4, none⟩ = some (.int .u32 (x.msg.tx.version : Int)) ∧ W.cell? ⟨bj, j * 8 + 5, none⟩ = some (.slice B4 n4 d4) ∧ W.cell? ⟨bj, j * 8 + 6, none⟩ = some (.slice B5 n5 d5) ∧ W.cell? ⟨bj, j * 8 + 7, none⟩ = some (.int .i64 x.err)) (first | go_keep | exact ⟨(hb12.cell (p := ⟨bi, j * 8, none⟩) hbl1).trans k0, (hb12.cell (p := ⟨bi, j * 8 + 1, none⟩) hbl1).trans k1, (hb12.cell (p := ⟨bi, j * 8 + 2, none⟩) hbl1).trans k2, (hb12.cell (p := ⟨bi, j * 8 + 3, none⟩) hbl1).trans k3, (hb12.cell (p := ⟨bi, j * 8 + 4, none⟩) hbl1).trans k4, (hb12.cell (p := ⟨bi, j * 8 + 5, none⟩) hbl1).trans k5, (hb12.cell (p := ⟨bi, j * 8 + 6, none⟩) hbl1).trans k6, (hb12.cell (p := ⟨bi, j * 8 + 7, none⟩) hbl1).trans k7, (hb12.cell (p := ⟨bj, j * 8, none⟩) hbl2).trans m0, (hb12.cell (p := ⟨bj, j * 8 + 1, none⟩) hbl2).trans m1, (hb12.cell (p := ⟨bj, j * 8 + 2, none⟩) hbl2).trans m2, (hb12.cell (p := ⟨bj, j * 8 + 3, none⟩) hbl2).trans m3, (hb12.cell (p := ⟨bj, j * 8 + 4, none⟩) hbl2).trans m4, (hb12.cell (p := ⟨bj, j * 8 + 5, none⟩) hbl2).trans m5, (hb12.cell (p := ⟨bj, j * 8 + 6, none⟩) hbl2).trans m6, (hb12.cell (p := ⟨bj, j * 8 + 7, none⟩) hbl2).trans m7⟩) ((go_at_call 34; (refine (HSM.out _ ((Below.refl _ _).drew)).mono ?_); rintro e w12 ⟨rfl, hb12⟩))
      have HB12 := Lib.hid (hbr.out.trans (((Below.refl wr.heap.size wr).drew.trans hb12).mono hbr.out.size))
      go_wp2_with fail
      go_roundw
      case rel => exact ⟨j + 1, by go_num, HJ.out, HB12⟩
      case measure => have := HJ.out; simp [intOf]; omega
    · obtain rfl : j = n := by omega
      go_wp2_with fail
      go_ret
      exact ⟨rfl, hbr.out⟩
end Go.Proofs.YtpacgblddeoheaaDoor.P22
