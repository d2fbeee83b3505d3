/- OrphanAdds: the walk. -/
import Derived.Test.YtacbibflhdmcoaaDoorOrphanApart
namespace Go.Proofs.YtacbibflhdmcoaaDoor.O14
open Go.RowKit Go.Deep T7
set_option linter.unusedVariables false
set_option linter.unusedSimpArgs false
set_option maxRecDepth 100000
set_option maxHeartbeats 2000000
attribute [local go_sem ↓] Go.wp_at_zero Go.wp_at_succ
theorem ids1_any (es : List Ent) (A : Option Addr) (c B : Nat) (w : World) (h : At 37 IsE0 w B A es) (hB : B ≤ w.heap.size) (hn : es.length ≤ 1000) :
    Calls Tryd.prog 41 #[.slice A es.length c] w fun e w' => ∃ g, e = .returned (.slice (some ⟨g, 0, none⟩) es.length es.length) ∧ w.heap.size ≤ g ∧ Bk w' g 54 ((es.map Ent.id).flatMap fun x => x.map byteV).toArray ∧ Below w.heap.size w w' := by
  have HI := Lib.hid h
  have HOKS := Lib.hid (show ∀ x ∈ es, x.id.length = 32 from all_of_at h fun _ x hx => hx.1)
  clear h
  obtain ⟨n, hn'⟩ : ∃ n, n = es.length := ⟨_, rfl⟩
  rw [← hn'] at hn ⊢
  have HN := Lib.hid hn'
  have hmk := run_make_rows (P := Tryd.prog) 36 54 _ 32 32 Tryd.underlying36 hash_info0 .i64 .i64 n (by omega) (by omega)
  obtain ⟨z0, hz0⟩ : ∃ z0, z0 = madeCells (Value.agg ((List.replicate 32 (0 : UInt8)).map byteV).toArray).cells (n * 32) := ⟨_, rfl⟩
  rw [← hz0] at hmk
  obtain ⟨cs0, hcs0⟩ : ∃ cs0, cs0 = z0.toList := ⟨_, rfl⟩
  have HZL := Lib.hid (show cs0.length = n * 32 by rw [hcs0, hz0, Array.length_toList, size_madeCells])
  have hz1 : z0 = cs0.toArray := by rw [hcs0]
  rw [hz1] at hmk
  clear hz0 hcs0 hz1 hn'
  go_enter Tryd.func41, Tryd.ntmps41
  go_upto_region 2 with (fail)
  obtain ⟨g, hg⟩ : ∃ g, g = w.heap.size := ⟨_, rfl⟩
  obtain ⟨w2, hw2⟩ : ∃ w2, w2 = w.alloc (.cells cs0.toArray 54) := ⟨_, rfl⟩
  rw [← hw2, ← hg]
  have HK2 := Lib.hid (show Bk w2 g 54 cs0.toArray by rw [hw2, hg]; exact Bk.new _ _ _)
  have HB2 := Lib.hid (show Below w.heap.size w w2 by rw [hw2]; exact Joins.below_alloc1 _ _)
  have hgw : w.heap.size ≤ g := by omega
  clear hw2 hg hmk
  go_wp2_with fail
  go_loopw [11] (fun iv wr => ∃ (k : Nat) (cs : List Value), k ≤ n ∧ iv = .int .i64 (k : Int) ∧ Hid (Bk wr g 54 cs.toArray) ∧ Hid (RowTo (fun e : Ent => e.id.map byteV) 32 n k es cs) ∧ Hid (Below w.heap.size w wr)) (fun iv _ => n - (intOf iv).toNat)
  case atStart => exact ⟨0, cs0, Nat.zero_le _, rfl, HK2, Lib.hid (RowTo.zero _ _ _ _ _ HZL.out), HB2⟩
  case round =>
    obtain ⟨k, cs, hk, rfl, hbk, hrow, hb⟩ := hrel
    have hgl := hbk.out.lt
    by_cases hlt : k < n
    · have hlt1 : k < es.length := by rw [← HN.out]; exact hlt
      obtain ⟨b, off, A1, n1, c1, A2, n2, c2, rfl, hbB, hr, hok⟩ := At.range0 (At.below HI.out (hb.out.mono hB)) hlt1
      have HNX := Lib.hid (hrow.out.next hlt1 hlt (by rw [List.length_map]; exact hok))
      have i1 : (0 : Int) ≤ (k : Int) := by omega
      have i2 : (k : Int) < (n : Int) := by omega
      generalize es[k] = x at *
      obtain ⟨wx, hwx⟩ : ∃ wx, wx = wr.alloc (.cells (entCells x (.slice A1 n1 c1) (.slice A2 n2 c2)).toArray 96) := ⟨_, rfl⟩
      have HBX := Lib.hid (show Below w.heap.size w wx by rw [hwx]; exact hb.out.alloc hb.out.size _)
      have HKX := Lib.hid (show Bk wx g 54 cs.toArray by rw [hwx]; exact hbk.out.alloc _)
      have HB3 : Bk wx wr.heap.size 96 (entCells x (.slice A1 n1 c1) (.slice A2 n2 c2)).toArray := by rw [hwx]; exact Bk.new _ _ _
      have HRP := Lib.hid (show wx.rangeAt wr.heap.size 4 (x.id.map byteV) from by have := ent_id (bk_range HB3); simpa using this)
      have L1 := Lib.hid (show (x.id.map byteV).length = 32 by rw [List.length_map]; exact hok)
      have HPO := Lib.hid (all_one (oneCell_bytes x.id))
      have HR := Lib.hid hr
      have HL := Lib.hid (entCells_len hok (.slice A1 n1 c1) (.slice A2 n2 c2))
      have HONE := Lib.hid (entCells_one x A1 A2 n1 c1 n2 c2)
      generalize hcs : entCells x (.slice A1 n1 c1) (.slice A2 n2 c2) = xs at *
      generalize x.id.map byteV = ps at *
      have HTH := Lib.hid (bk_there HKX.out (k * 32) ps.toArray.size (by rw [hrow.out.len]; have := L1.out; simp; have := Nat.mul_le_mul_right 32 (show k + 1 ≤ n by omega); omega))
      have HZI := zero_ent
      have HZL := Lib.hid zeroEnt_len
      generalize (entCells ⟨0, Txs.none, List.replicate 32 0, 0⟩ (.slice none 0 0) (.slice none 0 0)).toArray = zs at *
      have HZI := Lib.hid HZI
      clear hcs hr hok HB3
      go_upto_region 5 with (refine wpList_elem2 rfl rfl rfl rfl 96 (.tmp 14) (.tmp 5) (.tmp 15) (.tmp 13) rfl rfl rfl rfl b (off + k * 37) (by rfl) xs _ HR.out Tryd.underlying96 rfl (by rw [HL.out]; exact size_ent) zs HZI.out (by rw [HZL.out, HL.out]) HONE.out (.int .i64 (k : Int)) (by rfl) (by rfl) (by rfl) ?_)
      rw [← hwx]
      clear hwx
      go_wp2_with (first
        | (refine wpList_load_mid rfl 54 (.tmp 18) rfl wr.heap.size 4 (by rfl) ps _ HRP.out Tryd.underlying54 rfl (by rw [L1.out]; exact size_hash0) ?_)
        | (refine wpList_store_mid rfl 54 (.tmp 20) (.tmp 19) rfl g (k * 32) ps.toArray (by rfl) (by rfl) HTH.out (by rw [List.size_toArray, L1.out]; exact size_hash0) HPO.out ?_))
      go_roundw
      case rel =>
        exact ⟨k + 1, _, by omega, by go_num, Lib.hid (bk_setCells ps (k * 32) wx cs HKX.out (by rw [hrow.out.len, L1.out]; have := Nat.mul_le_mul_right 32 (show k + 1 ≤ n by omega); omega)), HNX, Lib.hid (below_setCells hgw _ _ _ HBX.out)⟩
      case measure => simp [intOf]; omega
    · obtain rfl : k = n := by omega
      have hcs := hrow.out.all HN.out.symm
      have hfm : ∀ l : List Ent, l.flatMap (fun e : Ent => e.id.map byteV) = (l.map Ent.id).flatMap (fun l => l.map byteV) := fun l => by induction l with
        | nil => rfl
        | cons x l ih => simp [ih]
      have HA := Lib.hid (show Bk wr g 54 ((es.map Ent.id).flatMap fun x => x.map byteV).toArray by rw [← hfm, ← hcs]; exact hbk.out)
      clear hcs hfm
      go_wp2_with fail
      go_ret
      exact ⟨g, rfl, hgw, HA.out, hb.out⟩
theorem all1_any (T : Nat → Prop) (es : List Ent) (O base : Nat) (v : Value) (w : World) (h : PoolAt T w O base v es) (hn : es.length ≤ 1000) :
    Calls Tryd.prog 18 #[.pointer (some ⟨O, 0, none⟩)] w fun e w' => ∃ g, e = .returned (.slice (some ⟨g, 0, none⟩) es.length es.length) ∧ w.heap.size ≤ g ∧ Bk w' g 54 ((es.map Ent.id).flatMap fun x => x.map byteV).toArray ∧ Below w.heap.size w w' := by
  obtain ⟨A, cap, hv, hc, hm, hat⟩ := h.row.at_
  have HC := Lib.hid (ids1_any es A cap w.heap.size w (At.imp hat fun _ _ h => h.e0) (Nat.le_refl _) hn)
  subst hv
  have c0 : w.cell? ⟨O, 0, none⟩ = some (.slice A es.length cap) := (h.bk.cell 0).trans rfl
  clear h hat
  go_enter Tryd.func18, Tryd.ntmps18
  go_wp2_with fail
  refine HC.out.mono ?_
  rintro e w' ⟨g, rfl, h1, h2, h3⟩
  go_wp2_with fail
  go_ret
  exact ⟨_, rfl, h1, h2, h3⟩
theorem ids_of_bk {W : World} {g : Nat} {l : List (List UInt8)} (hl : ∀ x ∈ l, x.length = 32) (h : Bk W g 54 (l.flatMap fun x => x.map byteV).toArray) : HashesAt W W.heap.size (some ⟨g, 0, none⟩) l :=
  At.of_bk (fun x : List UInt8 => x.map byteV) (fun x hx => ⟨by rw [List.length_map]; exact hl x hx, hl x hx, rfl⟩) h
theorem tx3 {w : World} {g t : Nat} {a b c : Value} (h : Bk w g t #[a, b, c]) : w.cell? ⟨g, 0, none⟩ = some a ∧ w.cell? ⟨g, 1, none⟩ = some b ∧ w.cell? ⟨g, 2, none⟩ = some c := ⟨(h.cell 0).trans rfl, (h.cell 1).trans rfl, (h.cell 2).trans rfl⟩
theorem step_grows {P : Program} {ops : Array Oper} {o : Oper} {a : Go.Act} {w : World} {K : Go.Act → World → Prop} {Q : Exit → Go.Act → World → Prop} {E : Prop}
    (hw : Region.wanted o (yielded ops a.tmps) = true) (s x : Operand) (t : TypeId) (hop : o.op = Op.call { callee := Callee.builtin Builtin.append, args := #[s, x], argTypes := #[t, t] })
    (e : TypeId) (i : TypeInfo) (z : Value) (size bytes : Nat) (h1 : P.underlying t = some (.slice e)) (h2 : P.info? e = some i) (h3 : i.zero = some z) (h4 : i.size = size) (h5 : i.bytes = bytes) (h6 : z.cells.size = size) (h7 : 0 < size)
    (b : Addr) (n cap : Nat) (olds : List Value) (hs : a.eval s = .slice (some b) n cap) (hlo : olds.length = n * size) (holds : ∀ j u, olds[j]? = some u → w.cell? (b.add j) = some u)
    (ad : Addr) (m c : Nat) (news : List Value) (hx : a.eval x = .slice (some ad) m c) (hn : news.length = m * size) (hc : ∀ j u, news[j]? = some u → w.cell? (ad.add j) = some u) (h1c : ∀ u ∈ news, u.oneCell' = true)
    (hfull : cap < n + m) (b1 : n + m ≤ maxLen) (b2 : (n + m) * bytes ≤ 140737488355328)
    (hK : ∀ v' w', w'.ownsRow w.heap.size e size v' (n + m) (olds ++ news) → w.grownBy w' none → K (a.put o.dst v') w') :
    if Region.wanted o (yielded ops a.tmps) = true then Oper.wp P o a w K Q else E := by
  rw [if_pos hw]
  obtain ⟨v', w', hrun, r1, r2⟩ := run_append_arg_grows (P := P) w t o.type e i z size bytes h1 h2 h3 h4 h5 h6 h7 b n cap olds hlo holds ad m c news hn hc hfull b1 b2
  unfold Oper.wp
  simp [execOp, hop, resolve, invoke, builtin, hs, hx, hrun, Result.andThen]
  exact hK _ _ r1 r2
end Go.Proofs.YtacbibflhdmcoaaDoor.O14
namespace Go.Proofs.YtacbibflhdmcoaaDoor
open Go.RowKit Go.Deep T7 O14 Go.ChangeShapes Go.WideShapes Go.ChangeAt
set_option linter.unusedVariables false
set_option linter.unusedSimpArgs false
set_option maxRecDepth 100000
set_option maxHeartbeats 4000000
attribute [local go_sem ↓] Go.wp_at_zero Go.wp_at_succ
theorem bk_src9 {W : World} {q t : Nat} {xs : List Value} (h : Bk W q t xs.toArray) : ∀ j u, xs[j]? = some u → W.cell? ((⟨q, 0, none⟩ : Addr).add j) = some u := fun j u hu => by
  have e : (⟨q, 0, none⟩ : Addr).add j = ⟨q, j, none⟩ := by unfold Addr.add; split <;> simp_all
  rw [e, h.cell]
  simpa using hu
theorem kp_alloc2 (w : World) (o1 o2 : Obj) : Kp (fun i => i = w.heap.size) (w.alloc o1).drew (w.alloc o2).drew :=
  ⟨rfl, rfl, rfl, by show (w.heap.push o1).size ≤ (w.heap.push o2).size; rw [Array.size_push, Array.size_push]; exact Nat.le_refl _, fun i hi hn => by
    have hn' : ¬ i = w.heap.size := hn
    show (w.heap.push o2)[i]? = (w.heap.push o1)[i]?
    rw [Array.getElem?_push, Array.getElem?_push, if_neg hn', if_neg hn']⟩
theorem adds_open {H : Type} {enc : TypeId × Value → H} {W : World} {v : Value} {d : DataW H} {p : List MemPlace} (hv : Value.okWide Tryd.prog W .any 0 63 v) (h : DataW.Trod enc Tryd.prog W 0 (fun _ => true) true 63 v d p) :
    ∃ (A : Option Addr) (c : Nat) (l : List O14.Act) (a : O14.Act) (Ai Ao Ap : Option Addr) (ci co cp : Nat), v = .agg ((.slice A l.length c : Value) :: actCells a (.slice Ai a.tx.ins.length ci) (.slice Ao a.tx.outs.length co) (.slice Ap a.parents.length cp)).toArray ∧
      (l.length ≤ c ∧ c ≤ maxLen ∧ ActsAt W W.heap.size A l) ∧ a.now < 18446744073709551616 ∧ TxAt W W.heap.size a.tx Ai ci Ao co := by
  unfold Value.okWide at hv
  rw [Tryd.underlying63] at hv
  obtain ⟨cs, rfl, hsz, _⟩ := hv
  obtain ⟨fuel, hf⟩ := h
  obtain ⟨y0, y1, m, _, hl, h0, h1⟩ := trod_struct2 Tryd.underlying63 hf
  have c1 : Tryd.prog.cellsOf 22 = 1 := by kernel_rfl
  have c7 : Tryd.prog.cellsOf 39 = 7 := by kernel_rfl
  have c8 : Tryd.prog.cellsOf 63 = 8 := by kernel_rfl
  simp only [c1, c7, List.drop_zero, Value.cells] at h0 h1
  rw [c8] at hl
  simp only [Value.cells, Array.length_toList] at hl
  obtain ⟨xs⟩ := cs
  match xs, hl with
  | v0 :: rest, hl =>
    have hl7 : rest.length = 7 := by simpa using hl
    simp only [List.take_succ_cons, List.take_zero] at h0
    simp only [List.drop_succ_cons, List.drop_zero] at h1
    rw [List.take_of_length_le (by omega)] at h1
    obtain ⟨A, len, c, l, rfl, hll, hlc, hlm, hat⟩ := open_at_of (IsAct W W.heap.size) 7 (by omega) Tryd.underlying22 (by kernel_rfl) h0 isAct_open
    subst hll
    obtain ⟨a, hnow, Ai, ci, Ao, co, Ap, cp, rfl, htx, _⟩ := isAct_open _ _ _ hl7 h1
    exact ⟨A, c, l, a, Ai, Ao, Ap, ci, co, cp, rfl, ⟨hlc, hlm, hat⟩, hnow, htx⟩
theorem orphanAdds_walk (w : World) (hlay : Laid w) (A : Option Addr) (c : Nat) (l : List O14.Act) (a : O14.Act) (Ai Ao Ap : Option Addr) (ci co cp : Nat) (hlc : l.length ≤ c ∧ c ≤ maxLen ∧ ActsAt w w.heap.size A l) (hnow : a.now < 18446744073709551616) (htx : TxAt w w.heap.size a.tx Ai ci Ao co) :
    Calls Tryd.prog 5 #[.agg ((.slice A l.length c : Value) :: actCells a (.slice Ai a.tx.ins.length ci) (.slice Ao a.tx.outs.length co) (.slice Ap a.parents.length cp)).toArray] w fun e w' => e = .returned (.bool true) ∧ Below w.heap.size w w' := by
  obtain ⟨hc, hm, hat⟩ := hlc
  have HLY := Lib.hid hlay
  have HAT := Lib.hid hat
  have HTX := Lib.hid htx
  obtain ⟨w1, hw1⟩ : ∃ w1, w1 = w.alloc (.cells ((.slice A l.length c : Value) :: actCells a (.slice Ai a.tx.ins.length ci) (.slice Ao a.tx.outs.length co) (.slice Ap a.parents.length cp)).toArray 63) := ⟨_, rfl⟩
  have HB1 := Lib.hid (show Below w.heap.size w w1 by rw [hw1]; exact Joins.below_alloc1 _ _)
  have HX1 := Lib.hid (show Bk w1 w.heap.size 63 ((.slice A l.length c : Value) :: actCells a (.slice Ai a.tx.ins.length ci) (.slice Ao a.tx.outs.length co) (.slice Ap a.parents.length cp)).toArray by rw [hw1]; exact Bk.new _ _ _)
  have hz1 : w.heap.size < w1.heap.size := HX1.out.lt
  have HG := Lib.hid (fun W hb => great_any l A c w.heap.size W (HAT.out.below hb) hb.size hc hm)
  have HH := Lib.hid (fun W hb hs => heavy_any a.tx Ai Ao ci co w.heap.size W (HTX.out.below hb) hs)
  have HTO := Lib.hid htx.ok
  have HADD := Lib.hid (fun (T : Nat → Prop) (es : List Ent) (O base : Nat) (v : Value) (W : World) (hb : Below w.heap.size w W) h hba h8 => O14.add_any T es O base v a.src a.tx Ai Ao ci co w.heap.size a.now W (HLY.out.below hb) h (HTX.out.below hb) hb.size hba h8 hnow)
  have HID := Lib.hid (fun W (hb : Below w.heap.size w W) => id_any a.tx Ai Ao ci co w.heap.size W (HLY.out.below hb) (HTX.out.below hb) hb.size)
  have HCK := Lib.hid (fun W (hb : Below w.heap.size w W) => check7_any a.tx Ai Ao ci co w.heap.size W (HTX.out.below hb) hb.size)
  obtain ⟨gb, hgb⟩ : ∃ gb, gb = greatB l := ⟨_, rfl⟩
  rw [← hgb] at HG
  have HGB := Lib.hid hgb
  obtain ⟨hv, hhv⟩ : ∃ hv, hv = heavyB a.tx := ⟨_, rfl⟩
  rw [← hhv] at HH
  unfold txV at HH HADD HID HCK
  obtain ⟨id, hid'⟩ : ∃ id, id = Txs.id a.tx := ⟨_, rfl⟩
  have HIL := Lib.hid (show id.length = 32 by rw [hid']; exact id_len a.tx)
  have HII := Lib.hid hid'
  rw [← hid'] at HID
  obtain ⟨ia, hia⟩ : ∃ ia, ia = bytesArr id := ⟨_, rfl⟩
  have HIA := Lib.hid hia
  have HIS := Lib.hid (show ia.size = 32 by rw [hia]; simp [bytesArr, HIL.out])
  have HI1 := Lib.hid (show ia.all (·.oneCell') = true by rw [hia]; simp [bytesArr, Value.oneCell', byteV])
  rw [← hia] at HID
  obtain ⟨zs, hzs⟩ : ∃ zs, zs = ((List.replicate 32 (0 : UInt8)).map byteV).toArray := ⟨_, rfl⟩
  have HZ := Lib.hid (show (Tryd.prog.info? 54).map (·.zero) = some (some (.agg zs)) by rw [hzs]; exact zero_hash0)
  have HZL := Lib.hid (show zs.size = 32 by rw [hzs]; simp)
  clear hlay hat htx hgb hhv hid' hia hzs
  unfold actCells at hw1 HX1 ⊢
  go_enter Tryd.func5, Tryd.ntmps5
  go_upto_region 1 with (fail)
  rw [← hw1]
  clear hw1
  go_wp2_with fail
  refine (alive_any w1 (HLY.out.below HB1.out)).mono ?_
  rintro e w2 ⟨rfl, hb2⟩
  have HB2 := Lib.hid (HB1.out.trans (hb2.mono HB1.out.size))
  have HX2 := Lib.hid (HX1.out.below hb2 hz1)
  have hz2 : w.heap.size < w2.heap.size := HX2.out.lt
  clear hb2
  go_upto_region 3 with (fail)
  have x0 : w2.cell? ⟨w.heap.size, 0, none⟩ = some (.slice A l.length c) := (HX2.out.cell 0).trans rfl
  have x2 : w2.cell? ⟨w.heap.size, 2, none⟩ = some (.int .i64 a.src) := (HX2.out.cell 2).trans rfl
  have x7 : w2.cell? ⟨w.heap.size, 7, none⟩ = some (.int .u64 (a.now : Int)) := (HX2.out.cell 7).trans rfl
  have HXT := Lib.hid (show w2.rangeAt w.heap.size 3 [.int .u32 (a.tx.version : Int), .slice Ai a.tx.ins.length ci, .slice Ao a.tx.outs.length co] from fun j u hu => by
    have hj := (List.getElem?_eq_some_iff.1 hu).1
    have := HX2.out.cell (3 + j)
    rw [this]
    match j, hj with
    | 0, _ => simpa using hu
    | 1, _ => simpa using hu
    | 2, _ => simpa using hu)
  refine wp_region_L [(1, w.heap.size, 0, [.slice A l.length c]), (4, w.heap.size, 2, [.int .i64 a.src]), (7, w.heap.size, 3, [.int .u32 (a.tx.version : Int), .slice Ai a.tx.ins.length ci, .slice Ao a.tx.outs.length co]), (10, w.heap.size, 7, [.int .u64 (a.now : Int)])] (by kernel_rfl) ?_
  refine wpAnyL_pure (i := 0) (v := ?_) rfl (by kernel_rfl) (by kernel_rfl) (by kernel_rfl) (fun _ _ _ h => h) (Or.inl ⟨by rfl, ?_⟩) ?_
  rotate_left
  · (intro w' _; go_simp <;> with_reducible rfl)
  simp only [Act.put, List.setIfInBounds_toArray, List.set_cons_zero, List.set_cons_succ, List.getElem_toArray, List.getElem_cons_zero, List.getElem_cons_succ]
  refine wpAnyL_read (i := 1) (v := (.slice A l.length c)) w.heap.size 0 [(.slice A l.length c)] (.head _) (range_one x0) rfl (by kernel_rfl) (by kernel_rfl) (by kernel_rfl) (fun _ _ _ h => h) (Or.inl ⟨by rfl, fun w' hSw => ?_⟩) ?_
  · (have hq := cell_one hSw; go_simp)
  simp only [Act.put, List.setIfInBounds_toArray, List.set_cons_zero, List.set_cons_succ, List.getElem_toArray, List.getElem_cons_zero, List.getElem_cons_succ]
  refine wpAnyL_pure (i := 2) (v := ?_) rfl (by kernel_rfl) (by kernel_rfl) (by kernel_rfl) (fun _ _ _ h => h) (Or.inl ⟨by rfl, ?_⟩) ?_
  rotate_left
  · (intro w' _; go_simp <;> with_reducible rfl)
  simp only [Act.put, List.setIfInBounds_toArray, List.set_cons_zero, List.set_cons_succ, List.getElem_toArray, List.getElem_cons_zero, List.getElem_cons_succ]
  refine wpAnyL_pure (i := 3) (v := ?_) rfl (by kernel_rfl) (by kernel_rfl) (by kernel_rfl) (fun _ _ _ h => h) (Or.inl ⟨by rfl, ?_⟩) ?_
  rotate_left
  · (intro w' _; go_simp <;> with_reducible rfl)
  simp only [Act.put, List.setIfInBounds_toArray, List.set_cons_zero, List.set_cons_succ, List.getElem_toArray, List.getElem_cons_zero, List.getElem_cons_succ]
  refine wpAnyL_read (i := 4) (v := (.int .i64 a.src)) w.heap.size 2 [(.int .i64 a.src)] (.tail _ (.head _)) (range_one x2) rfl (by kernel_rfl) (by kernel_rfl) (by kernel_rfl) (fun _ _ _ h => h) (Or.inl ⟨by rfl, fun w' hSw => ?_⟩) ?_
  · (have hq := cell_one hSw; go_simp)
  simp only [Act.put, List.setIfInBounds_toArray, List.set_cons_zero, List.set_cons_succ, List.getElem_toArray, List.getElem_cons_zero, List.getElem_cons_succ]
  refine wpAnyL_pure (i := 5) (v := ?_) rfl (by kernel_rfl) (by kernel_rfl) (by kernel_rfl) (fun _ _ _ h => h) (Or.inl ⟨by rfl, ?_⟩) ?_
  rotate_left
  · (intro w' _; go_simp <;> with_reducible rfl)
  simp only [Act.put, List.setIfInBounds_toArray, List.set_cons_zero, List.set_cons_succ, List.getElem_toArray, List.getElem_cons_zero, List.getElem_cons_succ]
  refine wpAnyL_pure (i := 6) (v := ?_) rfl (by kernel_rfl) (by kernel_rfl) (by kernel_rfl) (fun _ _ _ h => h) (Or.inl ⟨by rfl, ?_⟩) ?_
  rotate_left
  · (intro w' _; go_simp <;> with_reducible rfl)
  simp only [Act.put, List.setIfInBounds_toArray, List.set_cons_zero, List.set_cons_succ, List.getElem_toArray, List.getElem_cons_zero, List.getElem_cons_succ]
  refine wpAnyL_load (i := 7) w.heap.size 3 [.int .u32 (a.tx.version : Int), .slice Ai a.tx.ins.length ci, .slice Ao a.tx.outs.length co] (.tail _ (.tail _ (.head _))) HXT.out rfl (by kernel_rfl) (by kernel_rfl) (by kernel_rfl) (fun _ _ _ h => h) (by rfl) 35 (.tmp 21) rfl (by rfl) _ Tryd.underlying35 rfl (size_tx) ?_
  simp only [Act.put, List.setIfInBounds_toArray, List.set_cons_zero, List.set_cons_succ, List.getElem_toArray, List.getElem_cons_zero, List.getElem_cons_succ]
  refine wpAnyL_pure (i := 8) (v := ?_) rfl (by kernel_rfl) (by kernel_rfl) (by kernel_rfl) (fun _ _ _ h => h) (Or.inl ⟨by rfl, ?_⟩) ?_
  rotate_left
  · (intro w' _; go_simp <;> with_reducible rfl)
  simp only [Act.put, List.setIfInBounds_toArray, List.set_cons_zero, List.set_cons_succ, List.getElem_toArray, List.getElem_cons_zero, List.getElem_cons_succ]
  refine wpAnyL_pure (i := 9) (v := ?_) rfl (by kernel_rfl) (by kernel_rfl) (by kernel_rfl) (fun _ _ _ h => h) (Or.inl ⟨by rfl, ?_⟩) ?_
  rotate_left
  · (intro w' _; go_simp <;> with_reducible rfl)
  simp only [Act.put, List.setIfInBounds_toArray, List.set_cons_zero, List.set_cons_succ, List.getElem_toArray, List.getElem_cons_zero, List.getElem_cons_succ]
  refine wpAnyL_read (i := 10) (v := (.int .u64 (a.now : Int))) w.heap.size 7 [(.int .u64 (a.now : Int))] (.tail _ (.tail _ (.tail _ (.head _)))) (range_one x7) rfl (by kernel_rfl) (by kernel_rfl) (by kernel_rfl) (fun _ _ _ h => h) (Or.inl ⟨by rfl, fun w' hSw => ?_⟩) ?_
  · (have hq := cell_one hSw; go_simp)
  simp only [Act.put, List.setIfInBounds_toArray, List.set_cons_zero, List.set_cons_succ, List.getElem_toArray, List.getElem_cons_zero, List.getElem_cons_succ]
  refine wpAnyL_ready (rs := [11]) (by kernel_rfl) (by simp) ?_
  refine (AllReadyL.cons rfl (fun K hK => ?_) AllReadyL.nil)
  go_simp
  refine hK.out _ _ (Keeps.below (Joins.below_alloc1 _ _)) ?_
  clear hK K
  try simp only [Act.put, List.setIfInBounds_toArray, List.set_cons_zero, List.set_cons_succ, List.getElem_toArray, List.getElem_cons_zero, List.getElem_cons_succ]
  refine wpAnyL_pure (i := 12) (v := ?_) rfl (by kernel_rfl) (by kernel_rfl) (by kernel_rfl) (fun _ _ _ h => h) (Or.inl ⟨by rfl, ?_⟩) ?_
  rotate_left
  · (intro w' _; go_simp <;> with_reducible rfl)
  simp only [Act.put, List.setIfInBounds_toArray, List.set_cons_zero, List.set_cons_succ, List.getElem_toArray, List.getElem_cons_zero, List.getElem_cons_succ]
  refine wpAnyL_pure (i := 13) (v := ?_) rfl (by kernel_rfl) (by kernel_rfl) (by kernel_rfl) (fun _ _ _ h => h) (Or.inl ⟨by rfl, ?_⟩) ?_
  rotate_left
  · (intro w' _; go_simp <;> with_reducible rfl)
  simp only [Act.put, List.setIfInBounds_toArray, List.set_cons_zero, List.set_cons_succ, List.getElem_toArray, List.getElem_cons_zero, List.getElem_cons_succ]
  refine wpAnyL_ready (rs := [14]) (by kernel_rfl) (by simp) ?_
  refine (AllReadyL.cons rfl (fun K hK => ?_) AllReadyL.nil)
  go_simp
  refine hK.out _ _ (Keeps.kp (kp_alloc2 _ _ _) (fun p hp _ e => by simp only [List.mem_cons, List.not_mem_nil, or_false] at hp; rcases hp with rfl | rfl | rfl | rfl <;> simp only at e <;> omega)) ?_
  clear hK K
  try simp only [Act.put, List.setIfInBounds_toArray, List.set_cons_zero, List.set_cons_succ, List.getElem_toArray, List.getElem_cons_zero, List.getElem_cons_succ]
  refine wpAnyL_pure (i := 15) (v := ?_) rfl (by kernel_rfl) (by kernel_rfl) (by kernel_rfl) (fun _ _ _ h => h) (Or.inl ⟨by rfl, ?_⟩) ?_
  rotate_left
  · (intro w' _; go_simp <;> with_reducible rfl)
  simp only [Act.put, List.setIfInBounds_toArray, List.set_cons_zero, List.set_cons_succ, List.getElem_toArray, List.getElem_cons_zero, List.getElem_cons_succ]
  refine wpAnyL_done (by kernel_rfl) ?_ _
  go_upto_region 4 with (fail)
  obtain ⟨q, hq⟩ : ∃ q, q = w2.heap.size := ⟨_, rfl⟩
  obtain ⟨w3, hw3⟩ : ∃ w3, w3 = (w2.alloc (.cells #[.int .u32 (a.tx.version : Int), .slice Ai a.tx.ins.length ci, .slice Ao a.tx.outs.length co] 35)).drew := ⟨_, rfl⟩
  have hb23 : Below w2.heap.size w2 w3 := by rw [hw3]; exact (Joins.below_alloc1 _ _).drew
  have HB3 := Lib.hid (HB2.out.trans (hb23.mono HB2.out.size))
  have HT3 := Lib.hid (show Bk w3 q 35 #[.int .u32 (a.tx.version : Int), .slice Ai a.tx.ins.length ci, .slice Ao a.tx.outs.length co] by rw [hw3, hq]; exact Bk.new _ _ _)
  rw [← hw3, ← hq]
  clear hw3 hb23 x0 x2 x7 HXT HX1 HX2
  have hwq : w.heap.size ≤ q := by omega
  go_wp2_with fail
  refine (HG.out w3 HB3.out).mono ?_
  rintro e w4 ⟨rfl, hb4⟩
  have HB4 := Lib.hid (HB3.out.trans (hb4.mono HB3.out.size))
  have HT4 := Lib.hid (HT3.out.below hb4 HT3.out.lt)
  clear hb4 hq
  cases gb with
  | true =>
    clear HGB
    go_wp2_with fail
    go_ret
    exact ⟨rfl, HB4.out⟩
  | false =>
  obtain ⟨hl1, hpa⟩ := greatB_false HGB.out.symm
  clear HGB
  obtain ⟨t0, t1, t2⟩ := tx3 HT4.out
  go_wp2_with fail
  refine (HH.out w4 HB4.out HB4.out.size).mono ?_
  rintro e w5 ⟨rfl, hb5⟩
  have HB5 := Lib.hid (HB4.out.trans (hb5.mono HB4.out.size))
  have HT5 := Lib.hid (HT4.out.below hb5 HT4.out.lt)
  clear hb5 t0 t1 t2 HH
  cases hv with
  | true =>
    go_wp2_with fail
    go_ret
    exact ⟨rfl, HB5.out⟩
  | false =>
  go_wp2_with fail
  refine (grown_any l A c w.heap.size w5 (HLY.out.below HB5.out) (HAT.out.below HB5.out) HB5.out.size hl1 hpa).mono ?_
  rintro e w6 ⟨O, v, rfl, hO, hP, hb6⟩
  have HB6 := Lib.hid (HB5.out.trans (hb6.mono HB5.out.size))
  have HT6 := Lib.hid (HT5.out.below hb6 HT5.out.lt)
  have hz5 : q < w5.heap.size := HT5.out.lt
  have hgood := good_run l
  obtain ⟨es, hes⟩ : ∃ es, es = runEs l := ⟨_, rfl⟩
  rw [← hes] at hP hgood
  have h8 := hgood.few
  have HE1000 := Lib.hid (show es.length ≤ 1000 by omega)
  obtain ⟨T, hT⟩ : ∃ T, T = PU w5.heap.size O v := ⟨_, rfl⟩
  rw [← hT] at hP
  have HP6 := Lib.hid hP
  have HOKI := Lib.hid (show ∀ x ∈ es.map Ent.id, x.length = 32 from fun x hx => by
    obtain ⟨e, he, rfl⟩ := List.mem_map.1 hx
    rw [(hgood.each e he).1]; exact id_len _)
  clear hb6 hP hgood hes hT
  go_wp2_with fail
  refine (all1_any T es O w5.heap.size v w6 HP6.out HE1000.out).mono ?_
  rintro e w7 ⟨g7, rfl, hg7, hx7, hb7⟩
  have HB7 := Lib.hid (HB6.out.trans (hb7.mono HB6.out.size))
  have HT7 := Lib.hid (HT6.out.below hb7 HT6.out.lt)
  have HP7 := Lib.hid (show PoolAt T w7 O w5.heap.size v es from HP6.out.kp' (S := fun _ => False) hb7 (fun _ _ h => h) HP6.out.tO HP6.out.tv)
  have hO6 : O < w6.heap.size := HP6.out.bk.lt
  have hv6 := HP6.out.row.lt
  have HW7 := Lib.hid hx7
  have hz6 : w5.heap.size ≤ w6.heap.size := by omega
  have hz7 := hb7.size
  clear hb7 hx7
  obtain ⟨t0, t1, t2⟩ := tx3 HT7.out
  go_wp2_with fail
  refine (HADD.out T es O w5.heap.size v w7 HB7.out HP7.out (by omega) h8).mono ?_
  rintro e w8 ⟨Ag, cg, v', rfl, hcg, hcgm, hgat, hP8, hown, hk8⟩
  have hz8 := hk8.size
  have HT8 := Lib.hid (HT7.out.kp hk8 (fun e => by
    rcases e with e | e
    · omega
    · have := (hv6 _ e).1; omega))
  have HW8 := Lib.hid (HW7.out.kp hk8 (fun e => by
    rcases e with e | e
    · omega
    · have := (hv6 _ e).2; omega))
  have HB8 := Lib.hid (show Below w.heap.size w w8 from Kp.from_elder HB7.out hk8 (fun i hi e => by
    rcases e with e | e
    · omega
    · have := (hv6 _ e).1; omega))
  have HP8 := Lib.hid hP8
  have HGAT := Lib.hid hgat
  clear hgat hP8 hown hk8 t0 t1 t2 HP6 HP7 HADD
  obtain ⟨gl, hgl⟩ : ∃ gl, gl = addGone es a.tx := ⟨_, rfl⟩
  obtain ⟨er, her⟩ : ∃ er, er = addErr es a.tx := ⟨_, rfl⟩
  obtain ⟨es2, hes2⟩ : ∃ es2, es2 = addEs es a.src a.tx a.now := ⟨_, rfl⟩
  rw [← hgl] at HGAT hcg ⊢
  rw [← her]
  rw [← hes2] at HP8
  have HGL := Lib.hid hgl
  have HER := Lib.hid her
  have HES2 := Lib.hid hes2
  clear hgl her hes2
  obtain ⟨t0, t1, t2⟩ := tx3 HT8.out
  go_wp2_with fail
  refine (HID.out w8 HB8.out).mono ?_
  rintro e w9 ⟨rfl, hb9⟩
  have HB9 := Lib.hid (HB8.out.trans (hb9.mono HB8.out.size))
  have HT9 := Lib.hid (HT8.out.below hb9 HT8.out.lt)
  have HW9 := Lib.hid (HW8.out.below hb9 HW8.out.lt)
  have HG9 := Lib.hid (At.kpX HGAT.out (Nat.le_refl _) (Kp.of_below (S := fun _ => False) hb9) (fun _ _ _ h => h))
  have HP9 := Lib.hid (show PoolAt (Tn T w7 v') w9 O w5.heap.size v' es2 from HP8.out.kp' (S := fun _ => False) hb9 (fun _ _ h => h) HP8.out.tO HP8.out.tv)
  have hz9 := hb9.size
  clear hb9 t0 t1 t2 HT8 HW8 HGAT HP8
  go_upto_region 10 with (first
    | (refine wpList_allocOf rfl 54 rfl zs HZ.out ?_)
    | (refine wpList_store_row rfl 54 (.tmp 11) (.tmp 47) rfl w9.heap.size ia (by rfl) (by rfl) 54 zs ?hg (by rw [HIS.out]; exact size_hash) (by rw [HIS.out]; exact HZL.out) HI1.out ?_))
  case hg => exact Bk.new _ _ _
  obtain ⟨H, hH⟩ : ∃ H, H = w9.heap.size := ⟨_, rfl⟩
  obtain ⟨wa, hwa⟩ : ∃ wa, wa = (w9.alloc (.cells zs 54)).setRow w9.heap.size ia := ⟨_, rfl⟩
  have hba : Below w9.heap.size w9 wa := by rw [hwa]; exact below_setRow ((Below.refl _ _).alloc (Nat.le_refl _) _) (Nat.le_refl _) _
  have HHA := Lib.hid (show Bk wa H 54 ia by rw [hwa, hH]; exact setRow_heap _ _ _ _ _ _ (Bk.new w9 _ zs))
  have HBA := Lib.hid (HB9.out.trans (hba.mono HB9.out.size))
  have HTA := Lib.hid (HT9.out.below hba HT9.out.lt)
  have HWA := Lib.hid (HW9.out.below hba HW9.out.lt)
  have HGA := Lib.hid (At.kpX HG9.out (Nat.le_refl _) (Kp.of_below (S := fun _ => False) hba) (fun _ _ _ h => h))
  have HPA := Lib.hid (show PoolAt (Tn T w7 v') wa O w5.heap.size v' es2 from HP9.out.kp' (S := fun _ => False) hba (fun _ _ h => h) HP9.out.tO HP9.out.tv)
  rw [← hwa, ← hH]
  clear hwa hba hH HT9 HW9 HG9 HP9 HB9
  have HHI := Lib.hid (show Bk wa H 54 (id.map byteV).toArray by have := HHA.out; rw [HIA.out] at this; exact this)
  by_cases her0 : er = 0
  case neg =>
    have he2 : es2 = es := by rw [HES2.out]; unfold addEs; rw [← HER.out, if_neg her0]
    have hg2 : gl = [] := by rw [HGL.out]; unfold addGone; rw [← HER.out, if_neg her0]
    rw [he2] at HPA
    subst hg2
    have HALL := Lib.hid (all1_any _ es O w5.heap.size v' wa HPA.out HE1000.out)
    clear HES2 HGL he2
    go_wp2_with fail
    refine HALL.out.mono ?_
    rintro e wb ⟨gb, rfl, hgb1, hxb, hbb⟩
    have HWB := Lib.hid (HWA.out.below hbb HWA.out.lt)
    have HBB := Lib.hid (HBA.out.trans (hbb.mono HBA.out.size))
    have HTB := Lib.hid (HTA.out.below hbb HTA.out.lt)
    have HHB := Lib.hid (HHA.out.below hbb HHA.out.lt)
    have HXB := Lib.hid hxb
    clear hbb hxb
    have HSM := Lib.hid (sameids_any (es.map Ent.id) (es.map Ent.id) (some ⟨gb, 0, none⟩) (some ⟨g7, 0, none⟩) es.length es.length wb.heap.size wb.heap.size wb (ids_of_bk HOKI.out HXB.out) (Nat.le_refl _) (ids_of_bk HOKI.out HWB.out) (Nat.le_refl _) (by rw [List.length_map]; have := HE1000.out; omega) (by rw [List.length_map]; have := HE1000.out; omega))
    rw [List.length_map, decide_eq_true rfl] at HSM
    go_wp2_with fail
    refine HSM.out.mono ?_
    rintro e wc ⟨rfl, hbc⟩
    have HWC := Lib.hid (HWB.out.below hbc HWB.out.lt)
    have HBC := Lib.hid (HBB.out.trans (hbc.mono HBB.out.size))
    have HTC := Lib.hid (HTB.out.below hbc HTB.out.lt)
    have HHC := Lib.hid (HHB.out.below hbc HHB.out.lt)
    clear hbc
    obtain ⟨t0, t1, t2⟩ := tx3 HTC.out
    have hCK := HCK.out wc HBC.out
    by_cases hck : Txs.check a.tx = 0
    case neg =>
      have her : er = Txs.check a.tx := by rw [HER.out]; unfold addErr; rw [if_neg hck]
      subst her
      have HCK2 := Lib.hid hCK
      clear hCK HER hck her0
      go_wp2_with fail
      refine HCK2.out.mono ?_
      rintro e wd ⟨rfl, hbd⟩
      have HBD := Lib.hid (HBC.out.trans (hbd.mono HBC.out.size))
      clear hbd
      go_wp2_with fail
      go_ret
      exact ⟨rfl, HBD.out⟩
    case pos =>
      have hhas : hasId es id = true := by
        cases hh : hasId es id with
        | true => rfl
        | false =>
          have : er = 0 := by rw [HER.out]; unfold addErr; rw [if_pos hck, ← HII.out, hh]; rfl
          exact absurd this her0
      have her : er = 10 := by rw [HER.out]; unfold addErr; rw [if_pos hck, ← HII.out, hhas]; rfl
      subst her
      rw [hck] at hCK
      have HCK2 := Lib.hid hCK
      have HHAS := Lib.hid (show ((es.map Ent.id).any fun x => decide (x = id)) = true by rw [← hasId_any]; exact hhas)
      clear hCK HER hck her0 hhas
      go_wp2_with fail
      refine HCK2.out.mono ?_
      rintro e wd ⟨rfl, hbd⟩
      have HBD := Lib.hid (HBC.out.trans (hbd.mono HBC.out.size))
      have HWD := Lib.hid (HWC.out.below hbd HWC.out.lt)
      have HHD := Lib.hid (HHC.out.below hbd HHC.out.lt)
      clear hbd
      have HRH := Lib.hid (rhas_any (es.map Ent.id) (some ⟨g7, 0, none⟩) es.length wd.heap.size id HIL.out wd (ids_of_bk HOKI.out HWD.out) (Nat.le_refl _) (by rw [List.length_map]; have := HE1000.out; omega))
      rw [List.length_map, HHAS.out, show (id.map byteV).toArray = ia from HIA.out.symm] at HRH
      go_wp2_with (refine wpList_load_row_g (by rfl) 54 (.tmp 11) rfl H (by rfl) 54 ia (0, 0) _ HHD.out Tryd.underlying54 rfl (by rw [HIS.out]; exact size_hash0) ?_)
      refine HRH.out.mono ?_
      rintro e we ⟨rfl, hbe⟩
      have HBE := Lib.hid (HBD.out.trans (hbe.mono HBD.out.size))
      clear hbe
      go_wp2_with fail
      go_ret
      exact ⟨rfl, HBE.out⟩
  case pos =>
    subst her0
    have HNO := Lib.hid (show hasId es id = false by
      have := (addErr_zero HER.out.symm).2
      rw [HII.out]; exact this)
    have he2 : es2 = if es.length < 8 then es ++ [entOf a.src a.tx a.now] else (es ++ [entOf a.src a.tx a.now]).drop 1 := by rw [HES2.out]; unfold addEs; rw [← HER.out]; rfl
    have hg2 : gl = if es.length < 8 then [] else (es.take 1).map Ent.id := by rw [HGL.out]; unfold addGone; rw [← HER.out]; rfl
    have hent : (entOf a.src a.tx a.now).id = id := HII.out.symm
    obtain ⟨xi, hxi⟩ : ∃ xi, xi = id.map byteV := ⟨_, rfl⟩
    have HXI := Lib.hid hxi
    have HXL := Lib.hid (show xi.length = 32 by rw [hxi, List.length_map]; exact HIL.out)
    have HXR := Lib.hid (show wa.rangeAt H 0 xi by rw [hxi]; exact bk_range HHI.out)
    have HE2L := Lib.hid (show es2.length ≤ 1000 by
      rw [he2]; split
      · rw [List.length_append]; simp; omega
      · rw [List.length_drop, List.length_append]; simp; omega)
    have HOK2 := Lib.hid (show ∀ x ∈ es2.map Ent.id, x.length = 32 from fun x hx => by
      have hx' : x ∈ (es ++ [entOf a.src a.tx a.now]).map Ent.id := by
        rw [he2] at hx
        split at hx
        · exact hx
        · rw [List.map_drop] at hx; exact List.mem_of_mem_drop hx
      rw [List.map_append, List.mem_append] at hx'
      rcases hx' with h | h
      · exact HOKI.out x h
      · simp only [List.map_cons, List.map_nil, List.mem_singleton] at h
        rw [h, hent]; exact HIL.out)
    have HALL := Lib.hid (fun W (hW : Below wa.heap.size wa W) => all1_any (Tn T w7 v') es2 O w5.heap.size v' W (HPA.out.kp' (S := fun _ => False) hW (fun _ _ h => h) HPA.out.tO HPA.out.tv) HE2L.out)
    have HONEX := Lib.hid (show ∀ u ∈ xi, u.oneCell' = true by rw [hxi]; exact oneCell_bytes _)
    obtain ⟨fl, hfl⟩ : ∃ fl, fl = (es.map Ent.id).flatMap fun x => x.map byteV := ⟨_, rfl⟩
    have HFL := Lib.hid hfl
    have HFLL := Lib.hid (show fl.length = es.length * 32 by rw [hfl, flatMap_len (k := 32) _ (fun x hx => by rw [List.length_map]; exact HOKI.out x hx), List.length_map])
    rw [← hfl] at HWA
    obtain ⟨ih, hi, hz0, hz1', hz2'⟩ := info_parts hash_info0
    have Ii := Lib.hid hi
    have Iz := Lib.hid hz0
    have Iz1 := Lib.hid hz1'
    have Iz2 := Lib.hid hz2'
    have hwqH : H < wa.heap.size := HHA.out.lt
    clear HES2 HGL hxi hfl hi hz0 hz1' hz2' HID HCK
    by_cases hlt : es.length < 8
    case pos =>
      have e2 : es2.map Ent.id = es.map Ent.id ++ [id] := by rw [he2, if_pos hlt, List.map_append]; simp [hent]
      have e3 : gl = [] := by rw [hg2, if_pos hlt]
      subst e3
      have E2 := Lib.hid e2
      have i8 : (es.length : Int) < 8 := by omega
      clear he2 hg2 e2
      go_upto_region 13 with (fail)
      refine wp_region_L [(7, H, 0, xi)] (by kernel_rfl) ?_
      refine wpAnyL_pure (i := 0) (v := ?_) rfl (by kernel_rfl) (by kernel_rfl) (by kernel_rfl) (fun _ _ _ h => h) (Or.inl ⟨by rfl, ?_⟩) ?_
      rotate_left
      · (intro w' _; go_simp <;> with_reducible rfl)
      simp only [Act.put, List.setIfInBounds_toArray, List.set_cons_zero, List.set_cons_succ, List.getElem_toArray, List.getElem_cons_zero, List.getElem_cons_succ]
      refine wpAnyL_pure (i := 1) (v := ?_) rfl (by kernel_rfl) (by kernel_rfl) (by kernel_rfl) (fun _ _ _ h => h) (Or.inl ⟨by rfl, ?_⟩) ?_
      rotate_left
      · (intro w' _; go_simp <;> with_reducible rfl)
      simp only [Act.put, List.setIfInBounds_toArray, List.set_cons_zero, List.set_cons_succ, List.getElem_toArray, List.getElem_cons_zero, List.getElem_cons_succ]
      refine wpAnyL_pure (i := 2) (v := ?_) rfl (by kernel_rfl) (by kernel_rfl) (by kernel_rfl) (fun _ _ _ h => h) (Or.inl ⟨by rfl, ?_⟩) ?_
      rotate_left
      · (intro w' _; go_simp <;> with_reducible rfl)
      simp only [Act.put, List.setIfInBounds_toArray, List.set_cons_zero, List.set_cons_succ, List.getElem_toArray, List.getElem_cons_zero, List.getElem_cons_succ]
      refine wpAnyL_pure (i := 3) (v := ?_) rfl (by kernel_rfl) (by kernel_rfl) (by kernel_rfl) (fun _ _ _ h => h) (Or.inl ⟨by rfl, ?_⟩) ?_
      rotate_left
      · (intro w' _; go_simp <;> with_reducible rfl)
      simp only [Act.put, List.setIfInBounds_toArray, List.set_cons_zero, List.set_cons_succ, List.getElem_toArray, List.getElem_cons_zero, List.getElem_cons_succ]
      refine wpAnyL_pure (i := 4) (v := ?_) rfl (by kernel_rfl) (by kernel_rfl) (by kernel_rfl) (fun _ _ _ h => h) (Or.inl ⟨by rfl, ?_⟩) ?_
      rotate_left
      · (intro w' _; go_simp <;> with_reducible rfl)
      simp only [Act.put, List.setIfInBounds_toArray, List.set_cons_zero, List.set_cons_succ, List.getElem_toArray, List.getElem_cons_zero, List.getElem_cons_succ]
      refine wpAnyL_pure (i := 6) (v := ?_) rfl (by kernel_rfl) (by kernel_rfl) (by kernel_rfl) (fun _ _ _ h => h) (Or.inl ⟨by rfl, ?_⟩) ?_
      rotate_left
      · (intro w' _; go_simp <;> with_reducible rfl)
      simp only [Act.put, List.setIfInBounds_toArray, List.set_cons_zero, List.set_cons_succ, List.getElem_toArray, List.getElem_cons_zero, List.getElem_cons_succ]
      refine wpAnyL_load (i := 7) H 0 xi (.head _) HXR.out rfl (by kernel_rfl) (by kernel_rfl) (by kernel_rfl) (fun _ _ _ h => h) (by rfl) 54 (.tmp 11) rfl (by rfl) _ Tryd.underlying54 rfl (by rw [HXL.out]; exact size_hash0) ?_
      simp only [Act.put, List.setIfInBounds_toArray, List.set_cons_zero, List.set_cons_succ, List.getElem_toArray, List.getElem_cons_zero, List.getElem_cons_succ]
      refine wpAnyL_ready (rs := [5, 8]) (by kernel_rfl) (by simp) ?_
      refine (AllReadyL.cons rfl (fun K hK => ?_) (AllReadyL.cons rfl (fun K hK => ?_) AllReadyL.nil))
      focus
        go_simp
        refine (HALL.out _ ((Below.refl wa.heap.size wa).drew)).mono ?_
        rintro e wb ⟨g10, rfl, hg10, hx10, hb10⟩
        go_wp2_with fail
        refine hK.out _ _ (Keeps.below hb10) ?_
        clear hK K
        try simp only [Act.put, List.setIfInBounds_toArray, List.set_cons_zero, List.set_cons_succ, List.getElem_toArray, List.getElem_cons_zero, List.getElem_cons_succ]
        have HBb := Lib.hid (show Below wa.heap.size wa wb from ((Below.refl wa.heap.size wa).drew).trans (hb10.mono ((Below.refl wa.heap.size wa).drew).size))
        refine wpAnyL_ready (rs := [8]) (by kernel_rfl) (by simp) ?_
        refine (AllReadyL.cons rfl (fun K hK => ?_) AllReadyL.nil)
        refine step_buildOne (by rfl) 36 54 (.tmp 85) rfl xi.toArray (by rfl) Tryd.underlying36 (by rw [List.size_toArray, HXL.out]; exact size_hash0) zs HZ.out (by rw [List.size_toArray, HXL.out]; omega) (by rw [List.size_toArray, HXL.out]; omega) ?_
        refine hK.out _ _ (Keeps.below (Joins.below_alloc1 _ _)) ?_
        clear hK K
        try simp only [Act.put, List.setIfInBounds_toArray, List.set_cons_zero, List.set_cons_succ, List.getElem_toArray, List.getElem_cons_zero, List.getElem_cons_succ]
        obtain ⟨wS, hw_⟩ : ∃ w_, w_ = (wb).alloc (.cells xi.toArray 54) := ⟨_, rfl⟩
        obtain ⟨q2, hq_⟩ : ∃ q_, q_ = (wb).heap.size := ⟨_, rfl⟩
        have HQ2 := Lib.hid (show Bk wS q2 54 xi.toArray by rw [hw_, hq_]; exact Bk.new _ _ _)
        have hb_ : Below (wb).heap.size (wb) wS := by rw [hw_]; exact Joins.below_alloc1 _ _
        have HBS := Lib.hid (show Below wa.heap.size wa wS from (HBb.out).trans (hb_.mono (HBb.out).size))
        rw [← hw_]
        try rw [← hq_]
        have HX10 := Lib.hid (hx10.below hb_ hx10.lt)
        clear hw_ hq_ hb_ hx10 hb10 hg10 HBb
      rotate_left
      focus
        refine step_buildOne (by rfl) 36 54 (.tmp 85) rfl xi.toArray (by rfl) Tryd.underlying36 (by rw [List.size_toArray, HXL.out]; exact size_hash0) zs HZ.out (by rw [List.size_toArray, HXL.out]; omega) (by rw [List.size_toArray, HXL.out]; omega) ?_
        refine hK.out _ _ (Keeps.below (Joins.below_alloc1 _ _)) ?_
        clear hK K
        try simp only [Act.put, List.setIfInBounds_toArray, List.set_cons_zero, List.set_cons_succ, List.getElem_toArray, List.getElem_cons_zero, List.getElem_cons_succ]
        obtain ⟨wc0, hw_⟩ : ∃ w_, w_ = (wa.drew).alloc (.cells xi.toArray 54) := ⟨_, rfl⟩
        obtain ⟨q2, hq_⟩ : ∃ q_, q_ = (wa.drew).heap.size := ⟨_, rfl⟩
        have HQ0 := Lib.hid (show Bk wc0 q2 54 xi.toArray by rw [hw_, hq_]; exact Bk.new _ _ _)
        have hb_ : Below (wa.drew).heap.size (wa.drew) wc0 := by rw [hw_]; exact Joins.below_alloc1 _ _
        have HBc := Lib.hid (show Below wa.heap.size wa wc0 from ((Below.refl wa.heap.size wa).drew).trans (hb_.mono ((Below.refl wa.heap.size wa).drew).size))
        rw [← hw_]
        try rw [← hq_]
        clear hw_ hq_ hb_
        refine wpAnyL_ready (rs := [5]) (by kernel_rfl) (by simp) ?_
        refine (AllReadyL.cons rfl (fun K hK => ?_) AllReadyL.nil)
        go_simp
        refine (HALL.out _ (HBc.out)).mono ?_
        rintro e wS ⟨g10, rfl, hg10, hx10, hb10⟩
        go_wp2_with fail
        refine hK.out _ _ (Keeps.below hb10) ?_
        clear hK K
        try simp only [Act.put, List.setIfInBounds_toArray, List.set_cons_zero, List.set_cons_succ, List.getElem_toArray, List.getElem_cons_zero, List.getElem_cons_succ]
        have HQ2 := Lib.hid (HQ0.out.below hb10 HQ0.out.lt)
        have HBS := Lib.hid (show Below wa.heap.size wa wS from HBc.out.trans (hb10.mono HBc.out.size))
        have HX10 := Lib.hid hx10
        clear hx10 hb10 hg10 HQ0 HBc
      all_goals
        refine wpAnyL_ready (rs := [9]) (by kernel_rfl) (by simp) ?_
        refine (AllReadyL.cons rfl (fun K hK => ?_) AllReadyL.nil)
        refine step_grows (by rfl) (.tmp 84) (.tmp 86) _ rfl 54 ih _ 32 32 Tryd.underlying36 Ii.out Iz.out Iz1.out Iz2.out rfl (by decide) ⟨g7, 0, none⟩ (es.length) (es.length) (fl) (by rfl) (HFLL.out) (bk_src9 (HWA.out.below HBS.out HWA.out.lt)) ⟨q2, 0, none⟩ 1 1 xi (by rfl) (by rw [HXL.out]) (bk_src9 HQ2.out) HONEX.out (by omega) (by unfold maxLen; omega) (by omega) ?_
        intro v9 w9 hrow9 hg9
        have hb9 : Below wS.heap.size wS w9 := ⟨hg9.os, hg9.tape, hg9.output, hg9.size, fun i hi => hg9.block i hi (by simp)⟩
        refine hK.out _ _ (Keeps.below hb9) ?_
        clear hK K
        try simp only [Act.put, List.setIfInBounds_toArray, List.set_cons_zero, List.set_cons_succ, List.getElem_toArray, List.getElem_cons_zero, List.getElem_cons_succ]
        obtain ⟨A9, c9, rfl, _⟩ := own_form hrow9
        have hI9 : IdsAt wS.heap.size w9 (.slice A9 (es.length + 1) c9) (es.map Ent.id ++ [id]) := ⟨fun x hx => by
          rcases List.mem_append.1 hx with h | h
          · exact HOKI.out x h
          · rw [List.mem_singleton.1 h]; exact HIL.out, by
          have := hrow9
          rw [List.length_append, List.flatMap_append]
          rw [List.length_map, ← HFL.out]
          simpa [HXI.out] using this⟩
        obtain ⟨A9', c9', hv9, _, _, hat9⟩ := hI9.at_
        injection hv9 with e1 e2 e3
        subst e1 e3
        clear e2
        have HB9 := Lib.hid (HBS.out.trans (hb9.mono HBS.out.size))
        have HSM := Lib.hid (sameids_any (es2.map Ent.id) (es.map Ent.id ++ [id]) (some ⟨g10, 0, none⟩) A9 es2.length c9 w9.heap.size w9.heap.size w9 (ids_of_bk HOK2.out (HX10.out.below hb9 HX10.out.lt)) (Nat.le_refl _) hat9 (Nat.le_refl _) (by rw [List.length_map]; have := HE2L.out; omega) (by rw [List.length_append]; have := HE1000.out; rw [List.length_map]; simp; omega))
        rw [decide_eq_true E2.out, List.length_map, List.length_append, List.length_map, List.length_singleton] at HSM
        clear hrow9 hg9 hb9 hI9 hat9
        refine wpAnyL_ready (rs := [10]) (by kernel_rfl) (by simp) ?_
        refine (AllReadyL.cons rfl (fun K hK => ?_) AllReadyL.nil)
        go_simp
        refine HSM.out.mono ?_
        rintro e w10 ⟨rfl, hb11⟩
        go_wp2_with fail
        refine hK.out _ _ (Keeps.below hb11) ?_
        clear hK K
        try simp only [Act.put, List.setIfInBounds_toArray, List.set_cons_zero, List.set_cons_succ, List.getElem_toArray, List.getElem_cons_zero, List.getElem_cons_succ]
        have HB10 := Lib.hid (HBA.out.trans ((HB9.out.trans (hb11.mono HB9.out.size)).mono HBA.out.size))
        refine wpAnyL_pure (i := 11) (v := ?_) rfl (by kernel_rfl) (by kernel_rfl) (by kernel_rfl) (fun _ _ _ h => h) (Or.inl ⟨by rfl, ?_⟩) ?_
        rotate_left
        · (intro w' _; go_simp <;> with_reducible rfl)
        simp only [Act.put, List.setIfInBounds_toArray, List.set_cons_zero, List.set_cons_succ, List.getElem_toArray, List.getElem_cons_zero, List.getElem_cons_succ]
        refine wpAnyL_pure (i := 12) (v := ?_) rfl (by kernel_rfl) (by kernel_rfl) (by kernel_rfl) (fun _ _ _ h => h) (Or.inl ⟨by rfl, ?_⟩) ?_
        rotate_left
        · (intro w' _; go_simp <;> with_reducible rfl)
        simp only [Act.put, List.setIfInBounds_toArray, List.set_cons_zero, List.set_cons_succ, List.getElem_toArray, List.getElem_cons_zero, List.getElem_cons_succ]
        refine wpAnyL_done (by kernel_rfl) ?_ _
        go_wp2_with fail
        go_ret
        exact ⟨rfl, HB10.out⟩
    case neg =>
      have h8e : es.length = 8 := by omega
      have e2 : es2.map Ent.id = (es.map Ent.id).drop 1 ++ [id] := by
        rw [he2, if_neg hlt, List.map_drop, List.map_append, List.drop_append_of_le_length (by rw [List.length_map]; omega)]
        simp [hent]
      have e3 : gl = (es.map Ent.id).take 1 := by rw [hg2, if_neg hlt, List.map_take]
      have E2 := Lib.hid e2
      have hdl : ((es.map Ent.id).drop 1).length = 7 := by rw [List.length_drop, List.length_map, h8e]
      have hfd : ((es.map Ent.id).drop 1).flatMap (fun x => x.map byteV) = fl.drop 32 := by
        have hok := HOKI.out
        rw [HFL.out]
        generalize es.map Ent.id = ids at hok hdl ⊢
        match ids, hok, hdl with
        | [], _, h => simp at h
        | x :: xs, hok, _ =>
          rw [List.flatMap_cons, List.drop_one, List.tail_cons, List.drop_left' (by rw [List.length_map]; exact hok x (by simp))]
      have HDL := Lib.hid hdl
      have HFD := Lib.hid hfd
      have HFDL := Lib.hid (show (fl.drop 32).length = 7 * 32 by rw [List.length_drop, HFLL.out, h8e])
      have hS1 := fun W (hW : Below wa.heap.size wa W) => sameids_any gl ((es.map Ent.id).take 1) Ag (some ⟨g7, 0, none⟩) cg 8 W.heap.size W.heap.size W (At.kpX HGA.out (Nat.le_refl _) (Kp.of_below (S := fun _ => False) hW) (fun _ _ _ h => h)) (Nat.le_refl _) (At.takeN (ids_of_bk HOKI.out (by have := HWA.out.below hW HWA.out.lt; rw [HFL.out] at this; exact this)) 1) (Nat.le_refl _) (by rw [e3, List.length_take]; omega) (by rw [List.length_take]; omega)
      rw [decide_eq_true e3, List.length_take, List.length_map, show min 1 es.length = 1 by omega] at hS1
      have HS1 := Lib.hid hS1
      have HH8 := Lib.hid (fun (W : World) (hW : Below wa.heap.size wa W) => show ∀ j u, (fl.drop 32)[j]? = some u → W.cell? ((⟨g7, 32, none⟩ : Addr).add j) = some u from fun j u hu => by
        rw [List.getElem?_drop] at hu
        have := bk_src9 (HWA.out.below hW HWA.out.lt) (32 + j) u hu
        have ea : (⟨g7, 32, none⟩ : Addr).add j = (⟨g7, 0, none⟩ : Addr).add (32 + j) := by unfold Addr.add; simp
        rw [ea]
        exact this)
      have i8 : ¬ (es.length : Int) < 8 := by omega
      clear he2 hg2 e2 e3 hS1 hdl hfd
      go_upto_region 14 with (fail)
      refine wp_region_L [(9, H, 0, xi)] (by kernel_rfl) ?_
      refine wpAnyL_pure (i := 0) (v := ?_) rfl (by kernel_rfl) (by kernel_rfl) (by kernel_rfl) (fun _ _ _ h => h) (Or.inl ⟨by rfl, ?_⟩) ?_
      rotate_left
      · (intro w' _; go_simp <;> with_reducible rfl)
      simp only [Act.put, List.setIfInBounds_toArray, List.set_cons_zero, List.set_cons_succ, List.getElem_toArray, List.getElem_cons_zero, List.getElem_cons_succ]
      refine wpAnyL_pure (i := 1) (v := ?_) rfl (by kernel_rfl) (by kernel_rfl) (by kernel_rfl) (fun _ _ _ h => h) (Or.inl ⟨by rfl, ?_⟩) ?_
      rotate_left
      · (intro w' _; go_simp <;> with_reducible rfl)
      simp only [Act.put, List.setIfInBounds_toArray, List.set_cons_zero, List.set_cons_succ, List.getElem_toArray, List.getElem_cons_zero, List.getElem_cons_succ]
      refine wpAnyL_pure (i := 2) (v := ?_) rfl (by kernel_rfl) (by kernel_rfl) (by kernel_rfl) (fun _ _ _ h => h) (Or.inl ⟨by rfl, ?_⟩) ?_
      rotate_left
      · (intro w' _; go_simp <;> with_reducible rfl)
      simp only [Act.put, List.setIfInBounds_toArray, List.set_cons_zero, List.set_cons_succ, List.getElem_toArray, List.getElem_cons_zero, List.getElem_cons_succ]
      refine wpAnyL_ready (rs := [3]) (by kernel_rfl) (by simp) ?_
      refine (AllReadyL.cons rfl (fun K hK => ?_) AllReadyL.nil)
      go_simp
      refine (HS1.out _ ((Below.refl wa.heap.size wa).drew)).mono ?_
      rintro e wm ⟨rfl, hbm⟩
      go_wp2_with fail
      refine hK.out _ _ (Keeps.below hbm) ?_
      clear hK K
      try simp only [Act.put, List.setIfInBounds_toArray, List.set_cons_zero, List.set_cons_succ, List.getElem_toArray, List.getElem_cons_zero, List.getElem_cons_succ]
      have HBM := Lib.hid (show Below wa.heap.size wa wm from ((Below.refl wa.heap.size wa).drew).trans hbm)
      have HXM := Lib.hid (show wm.rangeAt H 0 xi from bk_range (by have := HHI.out.below HBM.out hwqH; rw [← HXI.out] at this; exact this))
      clear hbm
      refine wpAnyL_pure (i := 4) (v := ?_) rfl (by kernel_rfl) (by kernel_rfl) (by kernel_rfl) (fun _ _ _ h => h) (Or.inl ⟨by rfl, ?_⟩) ?_
      rotate_left
      · (intro w' _; go_simp <;> with_reducible rfl)
      simp only [Act.put, List.setIfInBounds_toArray, List.set_cons_zero, List.set_cons_succ, List.getElem_toArray, List.getElem_cons_zero, List.getElem_cons_succ]
      refine wpAnyL_pure (i := 5) (v := ?_) rfl (by kernel_rfl) (by kernel_rfl) (by kernel_rfl) (fun _ _ _ h => h) (Or.inl ⟨by rfl, ?_⟩) ?_
      rotate_left
      · (intro w' _; go_simp <;> with_reducible rfl)
      simp only [Act.put, List.setIfInBounds_toArray, List.set_cons_zero, List.set_cons_succ, List.getElem_toArray, List.getElem_cons_zero, List.getElem_cons_succ]
      refine wpAnyL_pure (i := 7) (v := ?_) rfl (by kernel_rfl) (by kernel_rfl) (by kernel_rfl) (fun _ _ _ h => h) (Or.inl ⟨by rfl, ?_⟩) ?_
      rotate_left
      · (intro w' _; go_simp <;> with_reducible rfl)
      simp only [Act.put, List.setIfInBounds_toArray, List.set_cons_zero, List.set_cons_succ, List.getElem_toArray, List.getElem_cons_zero, List.getElem_cons_succ]
      refine wpAnyL_pure (i := 8) (v := ?_) rfl (by kernel_rfl) (by kernel_rfl) (by kernel_rfl) (fun _ _ _ h => h) (Or.inl ⟨by rfl, ?_⟩) ?_
      rotate_left
      · (intro w' _; go_simp <;> with_reducible rfl)
      simp only [Act.put, List.setIfInBounds_toArray, List.set_cons_zero, List.set_cons_succ, List.getElem_toArray, List.getElem_cons_zero, List.getElem_cons_succ]
      refine wpAnyL_load (i := 9) H 0 xi (.head _) HXM.out rfl (by kernel_rfl) (by kernel_rfl) (by kernel_rfl) (fun _ _ _ h => h) (by rfl) 54 (.tmp 11) rfl (by rfl) _ Tryd.underlying54 rfl (by rw [HXL.out]; exact size_hash0) ?_
      simp only [Act.put, List.setIfInBounds_toArray, List.set_cons_zero, List.set_cons_succ, List.getElem_toArray, List.getElem_cons_zero, List.getElem_cons_succ]
      refine wpAnyL_ready (rs := [6, 10]) (by kernel_rfl) (by simp) ?_
      refine (AllReadyL.cons rfl (fun K hK => ?_) (AllReadyL.cons rfl (fun K hK => ?_) AllReadyL.nil))
      focus
        go_simp
        refine (HALL.out _ (HBM.out)).mono ?_
        rintro e wb ⟨g10, rfl, hg10, hx10, hb10⟩
        go_wp2_with fail
        refine hK.out _ _ (Keeps.below hb10) ?_
        clear hK K
        try simp only [Act.put, List.setIfInBounds_toArray, List.set_cons_zero, List.set_cons_succ, List.getElem_toArray, List.getElem_cons_zero, List.getElem_cons_succ]
        have HBb := Lib.hid (show Below wa.heap.size wa wb from (HBM.out).trans (hb10.mono (HBM.out).size))
        refine wpAnyL_ready (rs := [10]) (by kernel_rfl) (by simp) ?_
        refine (AllReadyL.cons rfl (fun K hK => ?_) AllReadyL.nil)
        refine step_buildOne (by rfl) 36 54 (.tmp 99) rfl xi.toArray (by rfl) Tryd.underlying36 (by rw [List.size_toArray, HXL.out]; exact size_hash0) zs HZ.out (by rw [List.size_toArray, HXL.out]; omega) (by rw [List.size_toArray, HXL.out]; omega) ?_
        refine hK.out _ _ (Keeps.below (Joins.below_alloc1 _ _)) ?_
        clear hK K
        try simp only [Act.put, List.setIfInBounds_toArray, List.set_cons_zero, List.set_cons_succ, List.getElem_toArray, List.getElem_cons_zero, List.getElem_cons_succ]
        obtain ⟨wS, hw_⟩ : ∃ w_, w_ = (wb).alloc (.cells xi.toArray 54) := ⟨_, rfl⟩
        obtain ⟨q2, hq_⟩ : ∃ q_, q_ = (wb).heap.size := ⟨_, rfl⟩
        have HQ2 := Lib.hid (show Bk wS q2 54 xi.toArray by rw [hw_, hq_]; exact Bk.new _ _ _)
        have hb_ : Below (wb).heap.size (wb) wS := by rw [hw_]; exact Joins.below_alloc1 _ _
        have HBS := Lib.hid (show Below wa.heap.size wa wS from (HBb.out).trans (hb_.mono (HBb.out).size))
        rw [← hw_]
        try rw [← hq_]
        have HX10 := Lib.hid (hx10.below hb_ hx10.lt)
        clear hw_ hq_ hb_ hx10 hb10 hg10 HBb
      rotate_left
      focus
        refine step_buildOne (by rfl) 36 54 (.tmp 99) rfl xi.toArray (by rfl) Tryd.underlying36 (by rw [List.size_toArray, HXL.out]; exact size_hash0) zs HZ.out (by rw [List.size_toArray, HXL.out]; omega) (by rw [List.size_toArray, HXL.out]; omega) ?_
        refine hK.out _ _ (Keeps.below (Joins.below_alloc1 _ _)) ?_
        clear hK K
        try simp only [Act.put, List.setIfInBounds_toArray, List.set_cons_zero, List.set_cons_succ, List.getElem_toArray, List.getElem_cons_zero, List.getElem_cons_succ]
        obtain ⟨wc0, hw_⟩ : ∃ w_, w_ = (wm).alloc (.cells xi.toArray 54) := ⟨_, rfl⟩
        obtain ⟨q2, hq_⟩ : ∃ q_, q_ = (wm).heap.size := ⟨_, rfl⟩
        have HQ0 := Lib.hid (show Bk wc0 q2 54 xi.toArray by rw [hw_, hq_]; exact Bk.new _ _ _)
        have hb_ : Below (wm).heap.size (wm) wc0 := by rw [hw_]; exact Joins.below_alloc1 _ _
        have HBc := Lib.hid (show Below wa.heap.size wa wc0 from (HBM.out).trans (hb_.mono (HBM.out).size))
        rw [← hw_]
        try rw [← hq_]
        clear hw_ hq_ hb_
        refine wpAnyL_ready (rs := [6]) (by kernel_rfl) (by simp) ?_
        refine (AllReadyL.cons rfl (fun K hK => ?_) AllReadyL.nil)
        go_simp
        refine (HALL.out _ (HBc.out)).mono ?_
        rintro e wS ⟨g10, rfl, hg10, hx10, hb10⟩
        go_wp2_with fail
        refine hK.out _ _ (Keeps.below hb10) ?_
        clear hK K
        try simp only [Act.put, List.setIfInBounds_toArray, List.set_cons_zero, List.set_cons_succ, List.getElem_toArray, List.getElem_cons_zero, List.getElem_cons_succ]
        have HQ2 := Lib.hid (HQ0.out.below hb10 HQ0.out.lt)
        have HBS := Lib.hid (show Below wa.heap.size wa wS from HBc.out.trans (hb10.mono HBc.out.size))
        have HX10 := Lib.hid hx10
        clear hx10 hb10 hg10 HQ0 HBc
      all_goals
        refine wpAnyL_ready (rs := [11]) (by kernel_rfl) (by simp) ?_
        refine (AllReadyL.cons rfl (fun K hK => ?_) AllReadyL.nil)
        refine step_grows (by rfl) (.tmp 98) (.tmp 100) _ rfl 54 ih _ 32 32 Tryd.underlying36 Ii.out Iz.out Iz1.out Iz2.out rfl (by decide) ⟨g7, 32, none⟩ (7) (7) (fl.drop 32) (by rfl) (HFDL.out) (HH8.out _ HBS.out) ⟨q2, 0, none⟩ 1 1 xi (by rfl) (by rw [HXL.out]) (bk_src9 HQ2.out) HONEX.out (by omega) (by unfold maxLen; omega) (by omega) ?_
        intro v9 w9 hrow9 hg9
        have hb9 : Below wS.heap.size wS w9 := ⟨hg9.os, hg9.tape, hg9.output, hg9.size, fun i hi => hg9.block i hi (by simp)⟩
        refine hK.out _ _ (Keeps.below hb9) ?_
        clear hK K
        try simp only [Act.put, List.setIfInBounds_toArray, List.set_cons_zero, List.set_cons_succ, List.getElem_toArray, List.getElem_cons_zero, List.getElem_cons_succ]
        obtain ⟨A9, c9, rfl, _⟩ := own_form hrow9
        have hI9 : IdsAt wS.heap.size w9 (.slice A9 (7 + 1) c9) ((es.map Ent.id).drop 1 ++ [id]) := ⟨fun x hx => by
          rcases List.mem_append.1 hx with h | h
          · exact HOKI.out x (List.mem_of_mem_drop h)
          · rw [List.mem_singleton.1 h]; exact HIL.out, by
          have := hrow9
          rw [List.length_append, List.flatMap_append]
          rw [HDL.out, HFD.out]
          simpa [HXI.out] using this⟩
        obtain ⟨A9', c9', hv9, _, _, hat9⟩ := hI9.at_
        injection hv9 with e1 e2 e3
        subst e1 e3
        clear e2
        have HB9 := Lib.hid (HBS.out.trans (hb9.mono HBS.out.size))
        have HSM := Lib.hid (sameids_any (es2.map Ent.id) ((es.map Ent.id).drop 1 ++ [id]) (some ⟨g10, 0, none⟩) A9 es2.length c9 w9.heap.size w9.heap.size w9 (ids_of_bk HOK2.out (HX10.out.below hb9 HX10.out.lt)) (Nat.le_refl _) hat9 (Nat.le_refl _) (by rw [List.length_map]; have := HE2L.out; omega) (by rw [List.length_append]; have := HE1000.out; rw [HDL.out]; simp))
        rw [decide_eq_true E2.out, List.length_map, List.length_append, HDL.out, List.length_singleton] at HSM
        clear hrow9 hg9 hb9 hI9 hat9
        refine wpAnyL_ready (rs := [12]) (by kernel_rfl) (by simp) ?_
        refine (AllReadyL.cons rfl (fun K hK => ?_) AllReadyL.nil)
        go_simp
        refine HSM.out.mono ?_
        rintro e w10 ⟨rfl, hb11⟩
        go_wp2_with fail
        refine hK.out _ _ (Keeps.below hb11) ?_
        clear hK K
        try simp only [Act.put, List.setIfInBounds_toArray, List.set_cons_zero, List.set_cons_succ, List.getElem_toArray, List.getElem_cons_zero, List.getElem_cons_succ]
        have HB10 := Lib.hid (HBA.out.trans ((HB9.out.trans (hb11.mono HB9.out.size)).mono HBA.out.size))
        refine wpAnyL_pure (i := 13) (v := ?_) rfl (by kernel_rfl) (by kernel_rfl) (by kernel_rfl) (fun _ _ _ h => h) (Or.inl ⟨by rfl, ?_⟩) ?_
        rotate_left
        · (intro w' _; go_simp <;> with_reducible rfl)
        simp only [Act.put, List.setIfInBounds_toArray, List.set_cons_zero, List.set_cons_succ, List.getElem_toArray, List.getElem_cons_zero, List.getElem_cons_succ]
        refine wpAnyL_pure (i := 14) (v := ?_) rfl (by kernel_rfl) (by kernel_rfl) (by kernel_rfl) (fun _ _ _ h => h) (Or.inl ⟨by rfl, ?_⟩) ?_
        rotate_left
        · (intro w' _; go_simp <;> with_reducible rfl)
        simp only [Act.put, List.setIfInBounds_toArray, List.set_cons_zero, List.set_cons_succ, List.getElem_toArray, List.getElem_cons_zero, List.getElem_cons_succ]
        refine wpAnyL_done (by kernel_rfl) ?_ _
        go_wp2_with fail
        go_ret
        exact ⟨rfl, HB10.out⟩
end Go.Proofs.YtacbibflhdmcoaaDoor
