/- TxIds: the walk. -/
import Derived.Test.YtmekgidfdlckoaaDoorTxCoins
import Derived.Test.YtmekgidfdlckoaaDoorTxAlive
import Derived.Test.YtmekgidfdlckoaaDoorLaid
namespace Go.Proofs.YtmekgidfdlckoaaDoor
open Go.RowKit Go.Deep T7
set_option linter.unusedVariables false
set_option linter.unusedSimpArgs false
set_option maxRecDepth 100000
attribute [local go_sem ↓] Go.wp_at_zero Go.wp_at_succ

theorem tx_box9 (w : World) (t : Txs.Tx) (A A' : Option Addr) (c c' : Nat) : ∃ w1, w1 = w.alloc (.cells #[.int .u32 (t.version : Int), .slice A t.ins.length c, .slice A' t.outs.length c'] 26) ∧
    Below w.heap.size w w1 ∧ w1.heap.size = w.heap.size + 1 ∧ Bk w1 w.heap.size 26 #[.int .u32 (t.version : Int), .slice A t.ins.length c, .slice A' t.outs.length c'] :=
  ⟨_, rfl, Joins.below_alloc1 _ _, by simp, Bk.new _ _ _⟩
theorem tx_cells9 {w : World} {g : Nat} {t : Txs.Tx} {A A' : Option Addr} {c c' : Nat} (h : Bk w g 26 #[.int .u32 (t.version : Int), .slice A t.ins.length c, .slice A' t.outs.length c']) :
    w.cell? ⟨g, 0, none⟩ = some (.int .u32 (t.version : Int)) ∧ w.cell? ⟨g, 1, none⟩ = some (.slice A t.ins.length c) ∧ w.cell? ⟨g, 2, none⟩ = some (.slice A' t.outs.length c') :=
  ⟨(h.cell 0).trans rfl, (h.cell 1).trans rfl, (h.cell 2).trans rfl⟩
section
variable {P : Program} {ops : Array Oper} {rest : List Oper} {o : Oper} {a : Act} {w : World} {Q : Exit → Act → World → Prop}
theorem wpList_wanted (hw : Region.wanted o (yielded ops a.tmps) = true) (h : ∀ K : Act → World → Prop, (∀ a w, wpList P ops Q rest a w → K a w) → o.wp P a w K Q) : wpList P ops Q (o :: rest) a w :=
  wpList_step fun K hK => by rw [if_pos hw]; exact h K hK
theorem wpList_load_row_g (hw : Region.wanted o (yielded ops a.tmps) = true) (ty : TypeId) (x : Operand) (ho : o.op = .load ty x)
    (g : Nat) (hx : a.eval x = .pointer (some ⟨g, 0, none⟩)) (t : TypeId) (cs : Array Value) (fr : Nat × Nat) (d : TypeDesc) (hg : w.heap[g]? = some (.cells cs t fr))
    (hu : P.underlying ty = some d) (hd : (match d with | .struct _ | .array _ _ => true | _ => false) = true) (hi : (P.info? ty).map (·.size) = some cs.size)
    (h : wpList P ops Q rest (a.put o.dst (.agg cs)) w) : wpList P ops Q (o :: rest) a w :=
  wpList_wanted hw fun _ hK => wp_load_row ty x ho g hx t cs fr d hg hu hd hi (hK _ _ h)
theorem wpList_built_g (hw : Region.wanted o (yielded ops a.tmps) = true) (t : TypeId) (parts : Array (Nat × Operand)) (ho : o.op = .build t parts)
    (cells : Array Value) (hf : P.built t (parts.map fun (i, x) => (i, a.eval x)).toList = some cells)
    (h : wpList P ops Q rest (a.put o.dst (.agg cells)) w) : wpList P ops Q (o :: rest) a w :=
  wpList_wanted hw fun _ hK => by
    unfold Oper.wp execOp
    simp only [ho, Sem.run_bind, run_build w t _ cells hf, Result.andThen_ok, Sem.run_pure]
    exact hK _ _ h
end
theorem zero_coin : (Tryd.prog.info? 47).map (·.zero) = some (some (.agg (coinCells (List.replicate 32 0) (⟨0, List.replicate 32 0⟩, 0)).toArray)) := by kernel_rfl
theorem run_eq_hash (w : World) (xs ys : List UInt8) (hx : xs.length = 32) (hy : ys.length = 32) : (binOp .eql 34 (.agg (xs.map byteV).toArray) (.agg (ys.map byteV).toArray)).run Tryd.prog w = .ok (.bool (decide (xs = ys))) w := by
  simp only [binOp]
  simp [Op.equal, Op.maxDepth, eqn_hash 9998 w xs ys hx hy]
theorem run_ne_hash (w : World) (xs ys : List UInt8) (hx : xs.length = 32) (hy : ys.length = 32) : (binOp .neq 34 (.agg (xs.map byteV).toArray) (.agg (ys.map byteV).toArray)).run Tryd.prog w = .ok (.bool (!decide (xs = ys))) w := by
  simp only [binOp]
  simp [Op.equal, Op.maxDepth, eqn_hash 9998 w xs ys hx hy]
set_option maxHeartbeats 4000000 in
theorem txIds_walk (w : World) (hlay : Laid w) (t : Txs.Tx) (A : Option Addr) (c : Nat) (A' : Option Addr) (c' : Nat) (h : TxAt w w.heap.size t A c A' c') :
    Calls Tryd.prog 3 #[txV t A c A' c'] w fun e w' => e = .returned (.bool true) ∧ Below w.heap.size w w' := by
  obtain ⟨w1, hw1, hb1, hz1, hk1⟩ := tx_box9 w t A A' c c'
  have HB1 := Lib.hid hb1
  have HZ1 := Lib.hid hz1
  have HK1 := Lib.hid hk1
  have HT := Lib.hid h
  have HL := Lib.hid hlay
  unfold txV
  clear hb1 hz1 hk1 h hlay
  go_enter Tryd.func3, Tryd.ntmps3
  go_wp2_with fail
  rw [← hw1]
  clear hw1
  refine (tx_alive w1).mono ?_
  rintro e w2 ⟨rfl, hb2⟩
  have HB2 := Lib.hid (HB1.out.trans (hb2.mono HB1.out.size))
  have HK2 := Lib.hid (HK1.out.below hb2 (by rw [HZ1.out]; omega))
  have hz2 : w.heap.size + 1 ≤ w2.heap.size := by rw [← HZ1.out]; exact hb2.size
  have HT2 := Lib.hid (HT.out.below HB2.out)
  obtain ⟨k0, k1, k2⟩ := tx_cells9 HK2.out
  clear hb2
  have HG := Lib.hid (great_any t A A' c c' _ w2 HT2.out HB2.out.size)
  unfold txV at HG
  go_wp2_with fail
  refine HG.out.mono ?_
  rintro e w3 ⟨rfl, hb3⟩
  have HB3 := Lib.hid (HB2.out.trans (hb3.mono HB2.out.size))
  have HK3 := Lib.hid (HK2.out.below hb3 (by omega))
  have hz3 := hb3.size
  clear hb3 HG k0 k1 k2 HT2 HB2 HK2 HB1 HK1
  cases hg : greatB t with
  | true =>
    go_wp2_with fail
    go_ret
    exact ⟨rfl, HB3.out⟩
  | false =>
    clear hg
    obtain ⟨k0, k1, k2⟩ := tx_cells9 HK3.out
    by_cases hf : Txs.form t = true
    case neg =>
      have hf' : Txs.form t = false := by simpa using hf
      have hid0 : Txs.id t = List.replicate 32 0 := by unfold Txs.id; rw [if_neg hf]
      have HP := put_no t A A' c c' _ w3 (HT.out.below HB3.out) HB3.out.size hf'
      have HI := fun W hb1 hb2 => id_no t A A' c c' w.heap.size W (HT.out.below hb1) hb2 hf'
      have HC := fun W hl hb1 hb2 => coins_no t A A' c c' w.heap.size W hl (HT.out.below hb1) hb2 hf'
      unfold txV at HP HI HC
      obtain ⟨zs, hzs⟩ : ∃ zs, zs = bytesArr (List.replicate 32 (0 : UInt8)) := ⟨_, rfl⟩
      have HZ := Lib.hid (show (Tryd.prog.info? 34).map (·.zero) = some (some (.agg zs)) by rw [hzs]; exact zero_hash7)
      have HBZ := Lib.hid (show Tryd.prog.built 34 [] = some zs by rw [hzs]; exact built_zero_hash)
      have HZL := Lib.hid (show zs.size = 32 by rw [hzs]; simp [bytesArr])
      have HZ1 := Lib.hid (show zs.all (·.oneCell') = true by rw [hzs]; simp [bytesArr, Value.oneCell', byteV])
      have HEQ : ∀ W, (binOp .eql 34 (.agg zs) (.agg zs)).run Tryd.prog W = .ok (.bool true) W := fun W => by
        rw [hzs]
        have := run_eq_hash W (List.replicate 32 0) (List.replicate 32 0) (by simp) (by simp)
        rw [decide_eq_true rfl] at this
        exact this
      rw [hid0, ← hzs] at HI
      have HPP := Lib.hid HP
      have HII := Lib.hid HI
      have HCC := Lib.hid HC
      have HEQQ := Lib.hid HEQ
      clear hf hf' hid0 HP HI HC hzs HEQ
      go_wp2_with fail
      refine HPP.out.mono ?_
      rintro e w4 ⟨rfl, hb4⟩
      have HB4 := Lib.hid (HB3.out.trans (hb4.mono HB3.out.size))
      have HK4 := Lib.hid (HK3.out.below hb4 (by omega))
      have hz4 := hb4.size
      clear hb4 k0 k1 k2 HPP
      obtain ⟨k0, k1, k2⟩ := tx_cells9 HK4.out
      go_wp2_with fail
      refine (HII.out w4 HB4.out HB4.out.size).mono ?_
      rintro e w5 ⟨rfl, hb5⟩
      have HB5 := Lib.hid (HB4.out.trans (hb5.mono HB4.out.size))
      have HK5 := Lib.hid (HK4.out.below hb5 (by omega))
      have hz5 := hb5.size
      clear hb5 k0 k1 k2 HII
      go_upto_region 7 with (first
        | (refine wpList_allocOf rfl 34 rfl zs HZ.out ?_)
        | (refine wpList_store_row rfl 34 (.tmp 5) (.tmp 23) rfl w5.heap.size zs (by rfl) (by rfl) 34 zs ?hg (by rw [HZL.out]; exact size_hash) rfl HZ1.out ?_))
      case hg => exact Bk.new _ _ _
      obtain ⟨w6, hw6⟩ : ∃ w6, w6 = (w5.alloc (.cells zs 34)).setRow w5.heap.size zs := ⟨_, rfl⟩
      have HH6 := Lib.hid (show Bk w6 w5.heap.size 34 zs by rw [hw6]; exact setRow_heap _ _ _ _ _ _ (Bk.new w5 _ zs))
      have hb56 : Below w5.heap.size w5 w6 := by rw [hw6]; exact below_setRow ((Below.refl _ _).alloc (Nat.le_refl _) _) (Nat.le_refl _) _
      have HB6 := Lib.hid (HB5.out.trans (hb56.mono (by omega)))
      have HK6 := Lib.hid (HK5.out.below hb56 (by omega))
      have hz6 := HH6.out.lt
      rw [← hw6]
      clear hw6 hb56
      obtain ⟨H, hH⟩ : ∃ H, H = w5.heap.size := ⟨_, rfl⟩
      rw [← hH] at HH6 hz6 ⊢
      have hHw : w.heap.size < H := by omega
      clear hH
      obtain ⟨k0, k1, k2⟩ := tx_cells9 HK6.out
      go_wp2_with fail
      refine (HCC.out w6 (HL.out.below HB6.out) HB6.out HB6.out.size).mono ?_
      rintro e w7 ⟨rfl, hb7⟩
      have HB7 := Lib.hid (HB6.out.trans (hb7.mono HB6.out.size))
      have HH7 := Lib.hid (HH6.out.below hb7 hz6)
      clear hb7 k0 k1 k2 HCC HH6 HB6
      have HEQ := HEQQ.out
      go_wp2_with (first
        | (refine wpList_load_row_g (by rfl) 34 (.tmp 5) rfl H (by rfl) 34 zs (0, 0) _ HH7.out Tryd.underlying34 rfl (by rw [HZL.out]; exact size_hash) ?_)
        | (refine wpList_built_g (by rfl) 34 #[] rfl zs ?hb1 ?_))
      case hb1 => exact HBZ.out
      go_ret
      exact ⟨rfl, HB7.out⟩
    case pos =>
      have HP := put_yes t A A' c c' _ w3 (HT.out.below HB3.out) HB3.out.size hf
      have HI := fun W hl hb1 hb2 => id_yes t A A' c c' w.heap.size W hl (HT.out.below hb1) hb2 hf
      have HC := fun W hl hb1 hb2 => coins_yes t A A' c c' w.heap.size W hl (HT.out.below hb1) hb2 hf
      have hidt : Txs.id t = Sha.twice (Txs.bytes t) := by unfold Txs.id; rw [if_pos hf]
      have hil := id_len t
      have hsm := Txs.bytes_small HT.out.ok hf
      have hn8 : t.outs.length ≤ 8 := (Txs.form_iff.1 hf).2.2
      unfold txV at HP HI HC
      obtain ⟨id, hid'⟩ : ∃ id, id = Txs.id t := ⟨_, rfl⟩
      rw [← hid'] at HI HC hidt hil
      obtain ⟨cs, hcs⟩ : ∃ cs, cs = id.map byteV := ⟨_, rfl⟩
      have his : bytesArr id = cs.toArray := by rw [hcs]; rfl
      obtain ⟨ia, hia⟩ : ∃ ia, ia = cs.toArray := ⟨_, rfl⟩
      rw [his, ← hia] at HI
      have HIA := Lib.hid hia
      have HIZ := Lib.hid (show ia.size = 32 by rw [hia, List.size_toArray, hcs, List.length_map]; exact hil)
      have HCL := Lib.hid (show cs.length = 32 by rw [hcs, List.length_map]; exact hil)
      obtain ⟨zs, hzs⟩ : ∃ zs, zs = bytesArr (List.replicate 32 (0 : UInt8)) := ⟨_, rfl⟩
      have HZ := Lib.hid (show (Tryd.prog.info? 34).map (·.zero) = some (some (.agg zs)) by rw [hzs]; exact zero_hash7)
      have HZL := Lib.hid (show zs.size = 32 by rw [hzs]; simp [bytesArr])
      have HC1 := Lib.hid (show ia.all (·.oneCell') = true by rw [hia, hcs]; simp [Value.oneCell', byteV])
      have HNE := Lib.hid (show ∀ W, (binOp .neq 34 (.agg cs.toArray) (.agg cs.toArray)).run Tryd.prog W = .ok (.bool false) W from fun W => by
        rw [hcs]
        have := run_ne_hash W id id hil hil
        rw [decide_eq_true rfl] at this
        exact this)
      obtain ⟨n, hn⟩ : ∃ n, n = t.outs.length := ⟨_, rfl⟩
      obtain ⟨N, hN⟩ : ∃ N, N = (Txs.bytes t).length := ⟨_, rfl⟩
      rw [← hn] at HP HI HC k2 hn8
      have HK3' := HK3.out
      rw [← hn] at HK3' ⊢
      have HK3N := Lib.hid HK3'
      rw [← hN] at hsm
      have HN := Lib.hid hn
      have HNN := Lib.hid hN
      have HPP := Lib.hid HP
      have HII := Lib.hid HI
      have HCC := Lib.hid HC
      have HIDT := Lib.hid hidt
      have HIL := Lib.hid hil
      have HCS := Lib.hid hcs
      have HIS := Lib.hid his
      clear hia hf HP HI HC hzs hcs his hid' hidt hil hn hN HK3' HK3
      go_wp2_with fail
      refine HPP.out.mono ?_
      rintro e w4 ⟨v, rfl, hov, hb4⟩
      obtain ⟨A4, c4, rfl, hn4, hm4, hat4, _⟩ := hov.at_
      rw [← HNN.out] at hn4 ⊢
      have HB4 := Lib.hid (HB3.out.trans (hb4.mono HB3.out.size))
      have HK4 := Lib.hid (HK3N.out.below hb4 (by omega))
      have hz4 := hb4.size
      have HAT4 := Lib.hid hat4
      clear hb4 k0 k1 k2 HPP hov hat4
      have k0 : w4.cell? ⟨w.heap.size, 0, none⟩ = some (.int .u32 (t.version : Int)) := (HK4.out.cell 0).trans rfl
      have k1 : w4.cell? ⟨w.heap.size, 1, none⟩ = some (.slice A t.ins.length c) := (HK4.out.cell 1).trans rfl
      have k2 : w4.cell? ⟨w.heap.size, 2, none⟩ = some (.slice A' n c') := (HK4.out.cell 2).trans rfl
      go_wp2_with fail
      refine (HII.out w4 (HL.out.below HB4.out) HB4.out HB4.out.size).mono ?_
      rintro e w5 ⟨rfl, hb5⟩
      have HB5 := Lib.hid (HB4.out.trans (hb5.mono HB4.out.size))
      have HK5 := Lib.hid (HK4.out.below hb5 (by omega))
      have hz5 := hb5.size
      have HAT5 := Lib.hid (HAT4.out.below hb5)
      clear hb5 k0 k1 k2 HII HAT4
      go_upto_region 7 with (first
        | (refine wpList_allocOf rfl 34 rfl zs HZ.out ?_)
        | (refine wpList_store_row rfl 34 (.tmp 5) (.tmp 23) rfl w5.heap.size ia (by rfl) (by rfl) 34 zs ?hg (by rw [HIZ.out]; exact size_hash) (by rw [HIZ.out]; exact HZL.out) HC1.out ?_))
      case hg => exact Bk.new _ _ _
      obtain ⟨w6, hw6⟩ : ∃ w6, w6 = (w5.alloc (.cells zs 34)).setRow w5.heap.size ia := ⟨_, rfl⟩
      have HH6 := Lib.hid (show Bk w6 w5.heap.size 34 cs.toArray by rw [hw6, ← HIA.out]; exact setRow_heap _ _ _ _ _ _ (Bk.new w5 _ zs))
      have hb56 : Below w5.heap.size w5 w6 := by rw [hw6]; exact below_setRow ((Below.refl _ _).alloc (Nat.le_refl _) _) (Nat.le_refl _) _
      have HB6 := Lib.hid (HB5.out.trans (hb56.mono (by omega)))
      have HK6 := Lib.hid (HK5.out.below hb56 (by omega))
      have HAT6 := Lib.hid (HAT5.out.below (hb56.mono hz5))
      have hz6 := HH6.out.lt
      have hz56 := hb56.size
      rw [← hw6]
      clear hw6 hb56 HAT5
      obtain ⟨H, hH⟩ : ∃ H, H = w5.heap.size := ⟨_, rfl⟩
      rw [← hH] at HH6 hz6 ⊢
      have hHw : w.heap.size < H := by omega
      clear hH
      have k0 : w6.cell? ⟨w.heap.size, 0, none⟩ = some (.int .u32 (t.version : Int)) := (HK6.out.cell 0).trans rfl
      have k1 : w6.cell? ⟨w.heap.size, 1, none⟩ = some (.slice A t.ins.length c) := (HK6.out.cell 1).trans rfl
      have k2 : w6.cell? ⟨w.heap.size, 2, none⟩ = some (.slice A' n c') := (HK6.out.cell 2).trans rfl
      go_wp2_with fail
      refine (HCC.out w6 (HL.out.below HB6.out) HB6.out HB6.out.size).mono ?_
      rintro e w7 ⟨A7, c7, rfl, hn7, hm7, hco7, hb7⟩
      have HB7 := Lib.hid (HB6.out.trans (hb7.mono HB6.out.size))
      have HH7 := Lib.hid (HH6.out.below hb7 hz6)
      have HK7 := Lib.hid (HK6.out.below hb7 (by omega))
      have HAT7 := Lib.hid (HAT6.out.below (hb7.mono (by omega)))
      have HCO7 := Lib.hid hco7
      have hz7 := hb7.size
      clear hb7 k0 k1 k2 HCC HH6 HB6 HK6 HAT6 hco7
      have r0 : w7.rangeAt H 0 cs := fun j v hv => by rw [Nat.zero_add, HH7.out.cell]; simpa using hv
      have k2 : w7.cell? ⟨w.heap.size, 2, none⟩ = some (.slice A' n c') := (HK7.out.cell 2).trans rfl
      have LT7 : w.heap.size < w7.heap.size := by omega
      have LH7 : H < w7.heap.size := by omega
      have hns := HNE.out
      have hTW : Hid (∀ W, Below w7.heap.size w7 W → Calls Tryd.prog 10 #[.slice (some ⟨W.heap.size, 0, none⟩) 1 1] (W.alloc (.cells #[.slice A4 N c4] 29)) fun e w' => e = .returned (.agg cs.toArray) ∧ Below w7.heap.size w7 w') := Lib.hid fun W hW => by
        have hfl : [Txs.bytes t].flatten = Txs.bytes t := by simp only [List.flatten_cons, List.flatten_nil, List.append_nil]
        have hzW := hW.size
        have hpb := parts_box W 29 A4 c4 W.heap.size W.heap.size (Txs.bytes t) (Nat.le_refl _) (by rw [← HNN.out]; exact hn4) hm4 ((HAT7.out.below (hW.mono (by omega))).mono (by omega)) rfl
        rw [← HNN.out] at hpb
        have hbA := Joins.below_alloc1 W (.cells #[.slice A4 N c4] 29)
        have := twice_any (some ⟨W.heap.size, 0, none⟩) 1 _ [Txs.bytes t] _ (HL.out.below (HB7.out.trans ((hW.trans (hbA.mono hzW)).mono (by omega)))) hpb (Nat.le_refl _) (Nat.le_refl _) (by simp [maxLen]) (by rw [hfl, ← HNN.out]; omega)
        rw [hfl, ← HIDT.out, HIS.out] at this
        refine this.mono ?_
        rintro e w' ⟨rfl, hb'⟩
        exact ⟨rfl, (hW.trans (hbA.mono hzW)).trans (hb'.mono (by simp; omega))⟩
      have hS : Hid (∀ W, Below w7.heap.size w7 W → W.rangeAt H 0 cs ∧ W.cell? ⟨w.heap.size, 2, none⟩ = some (.slice A' n c')) := Lib.hid fun W hW => ⟨fun j v hv => (hW.cell (p := ⟨H, 0 + j, none⟩) LH7).trans (r0 j v hv), (hW.cell (p := ⟨w.heap.size, 2, none⟩) LT7).trans k2⟩
      have hu := Tryd.underlying34
      have hi : (Tryd.prog.info? 34).map (·.size) = some cs.length := by rw [HCL.out]; exact size_hash
      have hlen32 := HCL.out
      go_upto_region 10 with (fail)
      go_region_held3 (fun w' => w'.rangeAt H 0 cs ∧ w'.cell? ⟨w.heap.size, 2, none⟩ = some (.slice A' n c')) (first | exact hS.out _ ((Below.refl _ _).drew) | exact hS.out _ (((Below.refl _ _).drew).alloc (by simp) _) | exact hS.out _ hb8) ((go_at_call 10; (refine (hTW.out _ ((Below.refl _ _).drew)).mono ?_); rintro e w8 ⟨rfl, hb8⟩))
      have HB8 := Lib.hid (HB7.out.trans (hb8.mono (by omega)))
      have HH8 := Lib.hid (HH7.out.below hb8 LH7)
      have HK8 := Lib.hid (HK7.out.below hb8 LT7)
      have HCO8 := Lib.hid (At.below HCO7.out hb8)
      have hz8 := hb8.size
      clear hb8 r0 k2 hTW hS hlen32 hi hu HH7 HK7 HCO7 HAT7 HB7 HB3 HK3N
      go_wp2_with fail
      go_loopw [73] (fun iv wr => ∃ k : Nat, k ≤ n ∧ iv = .int .i64 (k : Int) ∧ Hid (Below w8.heap.size w8 wr)) (fun iv _ => n - (intOf iv).toNat)
      case atStart => exact ⟨0, Nat.zero_le _, rfl, Lib.hid (Below.refl _ _)⟩
      case round =>
        obtain ⟨k, hk, rfl, hbr⟩ := hrel
        have hzr := hbr.out.size
        have HBR := Lib.hid (HB8.out.trans (hbr.out.mono (by omega)))
        by_cases hlt : k < n
        · have hlt1 : k < t.outs.length := by rw [← HN.out]; exact hlt
          have hlt2 : k < t.outs.zipIdx.length := by simpa using hlt1
          obtain ⟨b, off, rfl, hbB, hr, hok⟩ := CoinsAt.range (At.below HCO8.out (hbr.out.mono (by omega))) hlt2
          obtain ⟨b', off', rfl, hbB', hr', hok'⟩ := OutsAt.range (At.below HT.out.outs HBR.out) hlt1
          rw [show t.outs.zipIdx[k]'hlt2 = (t.outs[k], k) by simp] at hr
          have i1 : (0 : Int) ≤ (k : Int) := by omega
          have i2 : (k : Int) < (n : Int) := by omega
          have i3 : (k : Int) ≤ 4294967295 := by omega
          generalize t.outs[k] = x at *
          obtain ⟨xo, hxo⟩ : ∃ xo, xo = outCells x := ⟨_, rfl⟩
          obtain ⟨xs, hxs⟩ : ∃ xs, xs = coinCells id (x, k) := ⟨_, rfl⟩
          have hxs2 : xs = cs ++ .int .u32 (k : Int) :: xo := by rw [hxs, hxo, HCS.out]; rfl
          rw [← hxs] at hr
          rw [← hxo] at hr'
          obtain ⟨wx, hwx⟩ : ∃ wx, wx = wr.alloc (.cells xs.toArray 47) := ⟨_, rfl⟩
          have hbx : Below wr.heap.size wr wx := by rw [hwx]; exact Joins.below_alloc1 _ _
          have hkx : Bk wx wr.heap.size 47 xs.toArray := by rw [hwx]; exact Bk.new _ _ _
          have r1 : wx.rangeAt wr.heap.size 0 cs := fun j v hv => by
            rw [Nat.zero_add, hkx.cell, hxs2, List.getElem?_toArray, List.getElem?_append_left (List.getElem?_eq_some_iff.1 hv).1]; exact hv
          have c1 : wx.cell? ⟨wr.heap.size, 32, none⟩ = some (.int .u32 (k : Int)) := by
            rw [hkx.cell, hxs2, List.getElem?_toArray, List.getElem?_append_right (by rw [HCL.out]; omega), HCL.out]; rfl
          have r2 : wx.rangeAt wr.heap.size 33 xo := fun j v hv => by
            rw [hkx.cell, hxs2, List.getElem?_toArray, List.getElem?_append_right (by rw [HCL.out]; omega), HCL.out, show 33 + j - 32 = j + 1 by omega, List.getElem?_cons_succ]; exact hv
          have r3 : wx.rangeAt H 0 cs := fun j v hv => by
            rw [Nat.zero_add, ((HH8.out.below hbr.out HH8.out.lt).below hbx (by have := HH8.out.lt; omega)).cell]; simpa using hv
          have c3 : wx.cell? ⟨w.heap.size, 2, none⟩ = some (.slice (some ⟨b', off', none⟩) n c') := (((HK8.out.below hbr.out (by omega)).below hbx (by omega)).cell 2).trans rfl
          have r4 : wx.rangeAt b' (off' + k * 33) xo := fun j v hv => by
            have := hr' j v hv
            exact (hbx.cell (p := ⟨b', off' + k * 33 + j, none⟩) (by show b' < wr.heap.size; have := HB8.out.size; omega)).trans this
          have HR := Lib.hid hr
          have HXL := Lib.hid (show xs.length = 66 by rw [hxs]; exact coinCells_len HIL.out hok')
          have HXO := Lib.hid (show xo.length = 33 by rw [hxo]; exact outCells_len hok')
          have HONE := Lib.hid (show ∀ u ∈ xs, u.oneCell' = true by rw [hxs]; exact coinCells_one id (x, k))
          have HNO := Lib.hid (show ∀ W, (binOp .neq 45 (.agg xo.toArray) (.agg xo.toArray)).run Tryd.prog W = .ok (.bool false) W from fun W => by
            rw [hxo]
            have := run_ne_ot W ⟨x, hok'.2⟩ ⟨x, hok'.2⟩
            unfold Ot.ne at this
            simpa [Ot.arr, Ot.cells] using this)
          have HBX := Lib.hid (hbr.out.trans (hbx.mono (by omega)))
          have HRS := Lib.hid (And.intro r1 (And.intro c1 (And.intro r2 (And.intro r3 (And.intro c3 r4)))))
          obtain ⟨zc, hzc⟩ : ∃ zc, zc = (coinCells (List.replicate 32 0) (⟨0, List.replicate 32 0⟩, 0)).toArray := ⟨_, rfl⟩
          have HZC := Lib.hid (show (Tryd.prog.info? 47).map (·.zero) = some (some (.agg zc)) by rw [hzc]; exact zero_coin)
          have HZCL := Lib.hid (show zc.size = 66 by rw [hzc]; simp [coinCells, outCells])
          clear hr hr' hok hok' hxs hxs2 hbx hkx r1 c1 r2 r3 c3 r4 hzc hns hxo
          go_upto_region 15 with (refine wpList_elem2 rfl rfl rfl rfl 47 (.tmp 76) (.tmp 10) (.tmp 77) (.tmp 75) rfl rfl rfl rfl b (off + k * 66) (by rfl) xs _ HR.out Tryd.underlying47 rfl (by rw [HXL.out]; exact size_coin) zc HZC.out (by rw [HZCL.out, HXL.out]) HONE.out (.int .i64 (k : Int)) (by rfl) (by rfl) (by rfl) ?_)
          rw [← hwx]
          clear hwx
          obtain ⟨r1, c1, r2, r3, c3, r4⟩ := HRS.out
          have hns := HNE.out
          have hno := HNO.out
          have hu := Tryd.underlying34
          have hi : (Tryd.prog.info? 34).map (·.size) = some cs.length := by rw [HCL.out]; exact size_hash
          have hl1 := HCL.out
          have hu2 := Tryd.underlying45
          have hi2 : (Tryd.prog.info? 45).map (·.size) = some xo.length := by rw [HXO.out]; exact size_out
          have hl2 := HXO.out
          have hwk : IntKind.u32.wrap (k : Int) = (k : Int) := IntWalk.u32_in _ (by omega)
          refine wp_region_held_drew (S := fun w' => w'.rangeAt wr.heap.size 0 cs ∧ w'.cell? ⟨wr.heap.size, 32, none⟩ = some (.int .u32 (k : Int)) ∧ w'.rangeAt wr.heap.size 33 xo ∧ w'.rangeAt H 0 cs ∧ w'.cell? ⟨w.heap.size, 2, none⟩ = some (.slice (some ⟨b', off', none⟩) n c') ∧ w'.rangeAt b' (off' + k * 33) xo) (by kernel_rfl) (HRS.out) (fun hHeld => ?_)
          refine wpAnyH_take (i := 0) (v := ?_) rfl (by kernel_rfl) (by kernel_rfl) (by kernel_rfl) (fun _ _ _ h => h) (Or.inl ⟨by rfl, ?_⟩) hHeld ?_
          rotate_left
          · (intro w hSw; have c1 := hSw.2.1; have c3 := hSw.2.2.2.2.1; go_simp <;> with_reducible rfl)
          simp only [Act.put, List.setIfInBounds_toArray, List.set_cons_zero, List.set_cons_succ, List.getElem_toArray, List.getElem_cons_zero, List.getElem_cons_succ]
          refine wpAnyH_take (i := 1) (v := ?_) rfl (by kernel_rfl) (by kernel_rfl) (by kernel_rfl) (fun _ _ _ h => h) (Or.inl ⟨by rfl, ?_⟩) hHeld ?_
          rotate_left
          · (intro w hSw; have c1 := hSw.2.1; have c3 := hSw.2.2.2.2.1; go_simp <;> with_reducible rfl)
          simp only [Act.put, List.setIfInBounds_toArray, List.set_cons_zero, List.set_cons_succ, List.getElem_toArray, List.getElem_cons_zero, List.getElem_cons_succ]
          refine wpAnyH_take (i := 2) (v := .agg (cs).toArray) rfl (by kernel_rfl) (by kernel_rfl) (by kernel_rfl) (fun _ _ _ h => h) (yieldsIf_load_mid (by rfl) 34 (.tmp 79) rfl (wr.heap.size) (0) (by rfl) (cs) _ (fun _ h => h.1) Tryd.underlying34 rfl (hi)) hHeld ?_
          simp only [Act.put, List.setIfInBounds_toArray, List.set_cons_zero, List.set_cons_succ, List.getElem_toArray, List.getElem_cons_zero, List.getElem_cons_succ]
          refine wpAnyH_take (i := 3) (v := .agg (cs).toArray) rfl (by kernel_rfl) (by kernel_rfl) (by kernel_rfl) (fun _ _ _ h => h) (yieldsIf_load_mid (by rfl) 34 (.tmp 5) rfl (H) (0) (by rfl) (cs) _ (fun _ h => h.2.2.2.1) Tryd.underlying34 rfl (hi)) hHeld ?_
          simp only [Act.put, List.setIfInBounds_toArray, List.set_cons_zero, List.set_cons_succ, List.getElem_toArray, List.getElem_cons_zero, List.getElem_cons_succ]
          refine wpAnyH_take (i := 4) (v := ?_) rfl (by kernel_rfl) (by kernel_rfl) (by kernel_rfl) (fun _ _ _ h => h) (Or.inl ⟨by rfl, ?_⟩) hHeld ?_
          rotate_left
          · (intro w hSw; have c1 := hSw.2.1; have c3 := hSw.2.2.2.2.1; go_simp <;> with_reducible rfl)
          simp only [Act.put, List.setIfInBounds_toArray, List.set_cons_zero, List.set_cons_succ, List.getElem_toArray, List.getElem_cons_zero, List.getElem_cons_succ]
          refine wpAnyH_take (i := 5) (v := ?_) rfl (by kernel_rfl) (by kernel_rfl) (by kernel_rfl) (fun _ _ _ h => h) (Or.inl ⟨by rfl, ?_⟩) hHeld ?_
          rotate_left
          · (intro w hSw; have c1 := hSw.2.1; have c3 := hSw.2.2.2.2.1; go_simp <;> with_reducible rfl)
          simp only [Act.put, List.setIfInBounds_toArray, List.set_cons_zero, List.set_cons_succ, List.getElem_toArray, List.getElem_cons_zero, List.getElem_cons_succ]
          refine wpAnyH_take (i := 6) (v := ?_) rfl (by kernel_rfl) (by kernel_rfl) (by kernel_rfl) (fun _ _ _ h => h) (Or.inl ⟨by rfl, ?_⟩) hHeld ?_
          rotate_left
          · (intro w hSw; have c1 := hSw.2.1; have c3 := hSw.2.2.2.2.1; go_simp <;> with_reducible rfl)
          simp only [Act.put, List.setIfInBounds_toArray, List.set_cons_zero, List.set_cons_succ, List.getElem_toArray, List.getElem_cons_zero, List.getElem_cons_succ]
          refine wpAnyH_take (i := 7) (v := ?_) rfl (by kernel_rfl) (by kernel_rfl) (by kernel_rfl) (fun _ _ _ h => h) (Or.inl ⟨by rfl, ?_⟩) hHeld ?_
          rotate_left
          · (intro w hSw; have c1 := hSw.2.1; have c3 := hSw.2.2.2.2.1; go_simp <;> with_reducible rfl)
          simp only [Act.put, List.setIfInBounds_toArray, List.set_cons_zero, List.set_cons_succ, List.getElem_toArray, List.getElem_cons_zero, List.getElem_cons_succ]
          refine wpAnyH_take (i := 8) (v := ?_) rfl (by kernel_rfl) (by kernel_rfl) (by kernel_rfl) (fun _ _ _ h => h) (Or.inl ⟨by rfl, ?_⟩) hHeld ?_
          rotate_left
          · (intro w hSw; have c1 := hSw.2.1; have c3 := hSw.2.2.2.2.1; go_simp <;> with_reducible rfl)
          simp only [Act.put, List.setIfInBounds_toArray, List.set_cons_zero, List.set_cons_succ, List.getElem_toArray, List.getElem_cons_zero, List.getElem_cons_succ]
          refine wpAnyH_take (i := 9) (v := ?_) rfl (by kernel_rfl) (by kernel_rfl) (by kernel_rfl) (fun _ _ _ h => h) (Or.inl ⟨by rfl, ?_⟩) hHeld ?_
          rotate_left
          · (intro w hSw; have c1 := hSw.2.1; have c3 := hSw.2.2.2.2.1; go_simp <;> with_reducible rfl)
          simp only [Act.put, List.setIfInBounds_toArray, List.set_cons_zero, List.set_cons_succ, List.getElem_toArray, List.getElem_cons_zero, List.getElem_cons_succ]
          refine wpAnyH_take (i := 10) (v := .int .u32 (k : Int)) rfl (by kernel_rfl) (by kernel_rfl) (by kernel_rfl) (fun _ _ _ h => h) (Or.inl ⟨by rfl, ?_⟩) hHeld ?_
          · intro w hSw; go_simp
          simp only [Act.put, List.setIfInBounds_toArray, List.set_cons_zero, List.set_cons_succ, List.getElem_toArray, List.getElem_cons_zero, List.getElem_cons_succ]
          refine wpAnyH_take (i := 11) (v := .bool false) rfl (by kernel_rfl) (by kernel_rfl) (by kernel_rfl) (fun _ _ _ h => h) (Or.inl ⟨by rfl, ?_⟩) hHeld ?_
          · intro w hSw; go_simp
          simp only [Act.put, List.setIfInBounds_toArray, List.set_cons_zero, List.set_cons_succ, List.getElem_toArray, List.getElem_cons_zero, List.getElem_cons_succ]
          refine wpAnyH_take (i := 12) (v := .bool false) rfl (by kernel_rfl) (by kernel_rfl) (by kernel_rfl) (fun _ _ _ h => h) (Or.inl ⟨by rfl, ?_⟩) hHeld ?_
          · intro w hSw; go_simp
          simp only [Act.put, List.setIfInBounds_toArray, List.set_cons_zero, List.set_cons_succ, List.getElem_toArray, List.getElem_cons_zero, List.getElem_cons_succ]
          refine wpAnyH_take (i := 13) (v := ?_) rfl (by kernel_rfl) (by kernel_rfl) (by kernel_rfl) (fun _ _ _ h => h) (Or.inl ⟨by rfl, ?_⟩) hHeld ?_
          rotate_left
          · (intro w hSw; have c1 := hSw.2.1; have c3 := hSw.2.2.2.2.1; go_simp <;> with_reducible rfl)
          simp only [Act.put, List.setIfInBounds_toArray, List.set_cons_zero, List.set_cons_succ, List.getElem_toArray, List.getElem_cons_zero, List.getElem_cons_succ]
          refine wpAnyH_take (i := 14) (v := ?_) rfl (by kernel_rfl) (by kernel_rfl) (by kernel_rfl) (fun _ _ _ h => h) (Or.inl ⟨by rfl, ?_⟩) hHeld ?_
          rotate_left
          · (intro w hSw; have c1 := hSw.2.1; have c3 := hSw.2.2.2.2.1; go_simp <;> with_reducible rfl)
          simp only [Act.put, List.setIfInBounds_toArray, List.set_cons_zero, List.set_cons_succ, List.getElem_toArray, List.getElem_cons_zero, List.getElem_cons_succ]
          refine wpAnyH_take (i := 15) (v := .agg (xo).toArray) rfl (by kernel_rfl) (by kernel_rfl) (by kernel_rfl) (fun _ _ _ h => h) (yieldsIf_load_mid (by rfl) 45 (.tmp 92) rfl (wr.heap.size) (33) (by rfl) (xo) _ (fun _ h => h.2.2.1) Tryd.underlying45 rfl (hi2)) hHeld ?_
          simp only [Act.put, List.setIfInBounds_toArray, List.set_cons_zero, List.set_cons_succ, List.getElem_toArray, List.getElem_cons_zero, List.getElem_cons_succ]
          refine wpAnyH_take (i := 16) (v := ?_) rfl (by kernel_rfl) (by kernel_rfl) (by kernel_rfl) (fun _ _ _ h => h) (Or.inl ⟨by rfl, ?_⟩) hHeld ?_
          rotate_left
          · (intro w hSw; have c1 := hSw.2.1; have c3 := hSw.2.2.2.2.1; go_simp <;> with_reducible rfl)
          simp only [Act.put, List.setIfInBounds_toArray, List.set_cons_zero, List.set_cons_succ, List.getElem_toArray, List.getElem_cons_zero, List.getElem_cons_succ]
          refine wpAnyH_take (i := 17) (v := ?_) rfl (by kernel_rfl) (by kernel_rfl) (by kernel_rfl) (fun _ _ _ h => h) (Or.inl ⟨by rfl, ?_⟩) hHeld ?_
          rotate_left
          · (intro w hSw; have c1 := hSw.2.1; have c3 := hSw.2.2.2.2.1; go_simp <;> with_reducible rfl)
          simp only [Act.put, List.setIfInBounds_toArray, List.set_cons_zero, List.set_cons_succ, List.getElem_toArray, List.getElem_cons_zero, List.getElem_cons_succ]
          refine wpAnyH_take (i := 18) (v := ?_) rfl (by kernel_rfl) (by kernel_rfl) (by kernel_rfl) (fun _ _ _ h => h) (Or.inl ⟨by rfl, ?_⟩) hHeld ?_
          rotate_left
          · (intro w hSw; have c1 := hSw.2.1; have c3 := hSw.2.2.2.2.1; go_simp <;> with_reducible rfl)
          simp only [Act.put, List.setIfInBounds_toArray, List.set_cons_zero, List.set_cons_succ, List.getElem_toArray, List.getElem_cons_zero, List.getElem_cons_succ]
          refine wpAnyH_take (i := 19) (v := ?_) rfl (by kernel_rfl) (by kernel_rfl) (by kernel_rfl) (fun _ _ _ h => h) (Or.inl ⟨by rfl, ?_⟩) hHeld ?_
          rotate_left
          · (intro w hSw; have c1 := hSw.2.1; have c3 := hSw.2.2.2.2.1; go_simp <;> with_reducible rfl)
          simp only [Act.put, List.setIfInBounds_toArray, List.set_cons_zero, List.set_cons_succ, List.getElem_toArray, List.getElem_cons_zero, List.getElem_cons_succ]
          refine wpAnyH_take (i := 20) (v := .agg (xo).toArray) rfl (by kernel_rfl) (by kernel_rfl) (by kernel_rfl) (fun _ _ _ h => h) (yieldsIf_load_mid (by rfl) 45 (.tmp 97) rfl (b') (off' + k * 33) (by rfl) (xo) _ (fun _ h => h.2.2.2.2.2) Tryd.underlying45 rfl (hi2)) hHeld ?_
          simp only [Act.put, List.setIfInBounds_toArray, List.set_cons_zero, List.set_cons_succ, List.getElem_toArray, List.getElem_cons_zero, List.getElem_cons_succ]
          refine wpAnyH_take (i := 21) (v := .bool false) rfl (by kernel_rfl) (by kernel_rfl) (by kernel_rfl) (fun _ _ _ h => h) (Or.inl ⟨by rfl, ?_⟩) hHeld ?_
          · intro w hSw; go_simp
          simp only [Act.put, List.setIfInBounds_toArray, List.set_cons_zero, List.set_cons_succ, List.getElem_toArray, List.getElem_cons_zero, List.getElem_cons_succ]
          refine wpAnyH_take (i := 22) (v := .bool false) rfl (by kernel_rfl) (by kernel_rfl) (by kernel_rfl) (fun _ _ _ h => h) (Or.inl ⟨by rfl, ?_⟩) hHeld ?_
          · intro w hSw; go_simp
          simp only [Act.put, List.setIfInBounds_toArray, List.set_cons_zero, List.set_cons_succ, List.getElem_toArray, List.getElem_cons_zero, List.getElem_cons_succ]
          refine wpAnyH_done (by kernel_rfl) ?_ _
          have HBX2 := Lib.hid (HBX.out.drew)
          clear hns hno hu hi hl1 hu2 hi2 hl2 hwk r1 c1 r2 r3 c3 r4 hHeld
          go_wp2_with fail
          go_roundw
          case rel => exact ⟨k + 1, by omega, by go_num, HBX2⟩
          case measure => simp [intOf]; omega
        · obtain rfl : k = n := by omega
          go_wp2_with fail
          go_ret
          exact ⟨rfl, HBR.out⟩
end Go.Proofs.YtmekgidfdlckoaaDoor
