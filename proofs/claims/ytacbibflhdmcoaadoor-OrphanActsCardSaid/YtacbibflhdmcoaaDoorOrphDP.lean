/- OrphDP, merged: OrphD, OrphPart, OrphDL. -/
import Derived.Test.YtacbibflhdmcoaaDoorOrphB
import Derived.Test.YtacbibflhdmcoaaDoorOrders
import Derived.Test.YtacbibflhdmcoaaDoorOrphC
/- The document's pool: how it lies in memory; Ids, ids, Has. -/
namespace Go.Proofs.YtacbibflhdmcoaaDoor.O14
open Go.RowKit Go.Deep T7
set_option linter.unusedVariables false
set_option linter.unusedSimpArgs false
set_option maxRecDepth 100000
set_option maxHeartbeats 2000000
attribute [local go_sem ↓] Go.wp_at_zero Go.wp_at_succ

/-- an entry's cells, in the document's pool (fin: when it came) -/
def dCells (e : Ent) (i o : Value) : List Value := e.id.map byteV ++ [.int .i64 e.src, .int .u32 (e.tx.version : Int), i, o, .int .u64 (e.fin : Int)]
def dPair (p : EP) : List Value := dCells p.1 p.2.1 p.2.2
theorem dCells_len {e : Ent} (h : e.id.length = 32) (i o : Value) : (dCells e i o).length = 37 := by
  unfold dCells
  simp only [List.length_cons, List.length_append, List.length_map, h, List.length_nil]
/-- its transaction's rows lie below B -/
def DOk (B : Nat) (w : World) (p : EP) : Prop := p.1.id.length = 32 ∧ p.1.fin < 18446744073709551616 ∧ ∃ A c A' c', p.2.1 = .slice A p.1.tx.ins.length c ∧ p.2.2 = .slice A' p.1.tx.outs.length c' ∧ TxAt w B p.1.tx A c A' c'
theorem DOk.kp {B : Nat} {w w' : World} {p : EP} {S : Nat → Prop} (h : DOk B w p) (hk : Kp S w w') (hB : B ≤ w.heap.size) (hS : ∀ i, i < B → ¬ S i) : DOk B w' p := by
  obtain ⟨h1, h2, A, c, A', c', h3, h4, h5⟩ := h
  exact ⟨h1, h2, A, c, A', c', h3, h4, h5.below ⟨hk.os, hk.tape, hk.output, hk.size, fun i hi => hk.block i (by omega) (hS i hi)⟩⟩
theorem DOk.len {B : Nat} {w : World} {p : EP} (h : DOk B w p) : (dPair p).length = 37 := dCells_len h.1 _ _
theorem DOk.one {B : Nat} {w : World} {p : EP} (h : DOk B w p) : ∀ u ∈ dPair p, u.oneCell' = true := by
  obtain ⟨_, _, A, c, A', c', h3, h4, _⟩ := h
  intro u hu
  unfold dPair dCells at hu
  rw [h3, h4] at hu
  simp only [List.mem_append, List.mem_cons, List.not_mem_nil, or_false] at hu
  rcases hu with h | rfl | rfl | rfl | rfl | rfl
  · exact oneCell_bytes _ u h
  all_goals rfl
def IsD (vs : List Value) (p : EP) : Prop := vs = dPair p
/-- entries, wherever they lie, at a slice v -/
def DRow (w : World) (v : Value) (ps : List EP) : Prop := ∃ A c, v = .slice A ps.length c ∧ ps.length ≤ c ∧ c ≤ maxLen ∧ ∀ i (hi : i < ps.length), ∃ b off, A = some ⟨b, off, none⟩ ∧ b < w.heap.size ∧ w.rangeAt b (off + i * 37) (dPair ps[i])
theorem DRow.kp {w w' : World} {v : Value} {ps : List EP} {S : Nat → Prop} (h : DRow w v ps) (hk : Kp S w w') (hv : ∀ i, v.ownBlock = some i → ¬ S i) : DRow w' v ps := by
  obtain ⟨A, c, h1, h2, h3, h4⟩ := h
  refine ⟨A, c, h1, h2, h3, fun i hi => ?_⟩
  obtain ⟨b, off, hA, hb, hr⟩ := h4 i hi
  refine ⟨b, off, hA, Nat.lt_of_lt_of_le hb hk.size, fun j u hu => ?_⟩
  exact (hk.cell (p := ⟨b, _, none⟩) hb (hv b (by rw [h1, hA]; rfl))).trans (hr j u hu)
theorem DRow.of_own {w : World} {base : Nat} {v : Value} {ps : List EP} (h : w.ownsRow base 56 37 v ps.length (ps.flatMap dPair)) (hl : ∀ p ∈ ps, (dPair p).length = 37) : DRow w v ps := by
  obtain ⟨A, cap, hv, hn, hm, hA, hc⟩ := own_form h
  refine ⟨A, cap, hv, hn, hm, fun i hi => ?_⟩
  have h0 := hl _ (List.getElem_mem hi)
  have hcell : ∀ j (hj : j < (dPair ps[i]).length), ∃ b, A = some ⟨b, 0, none⟩ ∧ base ≤ b ∧ b < w.heap.size ∧ w.cell? ⟨b, i * 37 + j, none⟩ = some (dPair ps[i])[j] := fun j hj =>
    hc (i * 37 + j) _ (by
      rw [flatMap_index ps hl i hi j (by rw [h0] at hj; exact hj), List.getElem?_eq_getElem hj])
  obtain ⟨b, hA', _, hlt, _⟩ := hcell 0 (by omega)
  refine ⟨b, 0, hA', hlt, fun j u hu => ?_⟩
  obtain ⟨hj, rfl⟩ := List.getElem?_eq_some_iff.1 hu
  obtain ⟨b', hb', _, _, hcj⟩ := hcell j hj
  rw [hA'] at hb'
  injection hb' with hb'
  injection hb' with hb' _
  subst hb'
  rw [Nat.zero_add]
  exact hcj
/-- the document's pool, at block O; all that it changes lies at or above B -/
structure DPool (B : Nat) (w : World) (O : Nat) (v : Value) (ps : List EP) : Prop where
  bk : Bk w O 30 #[v]
  row : DRow w v ps
  all : ∀ p ∈ ps, DOk B w p
  ge : B ≤ O
  rge : ∀ i, v.ownBlock = some i → B ≤ i ∧ i ≠ O ∧ i < w.heap.size
theorem DPool.kp {B : Nat} {w w' : World} {O : Nat} {v : Value} {ps : List EP} {S : Nat → Prop} (h : DPool B w O v ps) (hk : Kp S w w') (hB : B ≤ w.heap.size) (hS : ∀ i, i < B → ¬ S i) (hO : ¬ S O) (hv : ∀ i, v.ownBlock = some i → ¬ S i) : DPool B w' O v ps :=
  ⟨h.bk.kp hk hO, h.row.kp hk hv, fun p hp => (h.all p hp).kp hk hB hS, h.ge, fun i hi => ⟨(h.rge i hi).1, (h.rge i hi).2.1, Nat.lt_of_lt_of_le (h.rge i hi).2.2 hk.size⟩⟩
theorem size_dent : (Tryd.prog.info? 56).map (·.size) = some 37 := by kernel_rfl
theorem dent_info : (Tryd.prog.info? 56).map (fun i => (i.zero, i.size, i.bytes)) = some (some (.agg (dCells ⟨0, Txs.none, List.replicate 32 0, 0⟩ (.slice none 0 0) (.slice none 0 0)).toArray), 37, 104) := by kernel_rfl
theorem zero_dent : (Tryd.prog.info? 56).map (·.zero) = some (some (.agg (dCells ⟨0, Txs.none, List.replicate 32 0, 0⟩ (.slice none 0 0) (.slice none 0 0)).toArray)) := by kernel_rfl
theorem zeroDent_len : (dCells ⟨0, Txs.none, List.replicate 32 0, 0⟩ (.slice none 0 0) (.slice none 0 0)).toArray.size = 37 := by simp [dCells]
theorem dids_any (ps : List EP) (B : Nat) (A : Option Addr) (c : Nat) (w : World) (h : DRow w (.slice A ps.length c) ps) (hk : ∀ p ∈ ps, DOk B w p) (hn : ps.length ≤ 1000) :
    Calls Tryd.prog 39 #[.slice A ps.length c] w fun e w' => ∃ v, e = .returned v ∧ IdsAt w.heap.size w' v (ps.map (·.1.id)) ∧ Below w.heap.size w w' := by
  obtain ⟨n, hn'⟩ : ∃ n, n = ps.length := ⟨_, rfl⟩
  rw [← hn'] at hn ⊢
  have HN := Lib.hid hn'
  obtain ⟨A', c', hv', _, _, hrg⟩ := h
  injection hv' with e1 e2 e3
  subst e1 e3
  have HRG := Lib.hid hrg
  have HALL := Lib.hid hk
  obtain ⟨ih, hi, hz0, hz1', hz2'⟩ := info_parts hash_info0
  have Ii := Lib.hid hi
  have Iz := Lib.hid hz0
  have Iz1 := Lib.hid hz1'
  have Iz2 := Lib.hid hz2'
  obtain ⟨zs, hzs⟩ : ∃ zs, zs = ((List.replicate 32 (0 : UInt8)).map byteV).toArray := ⟨_, rfl⟩
  have HZ := Lib.hid (show (Tryd.prog.info? 54).map (·.zero) = some (some (.agg zs)) by rw [hzs]; exact zero_hash0)
  have HZL := Lib.hid (show zs.size = 32 by rw [hzs]; simp)
  have hZE := zero_dent
  have hZL := zeroDent_len
  generalize (dCells ⟨0, Txs.none, List.replicate 32 0, 0⟩ (.slice none 0 0) (.slice none 0 0)).toArray = ze at hZE hZL
  have HZE := Lib.hid hZE
  have HZEL := Lib.hid hZL
  clear e2 hn' hrg hk hi hz0 hz1' hz2' hzs hZE hZL
  go_enter Tryd.func39, Tryd.ntmps39
  go_wp2_with fail
  go_loopw [3, 8] (fun hv iv wr => ∃ k : Nat, iv = .int .i64 (k : Int) ∧ k ≤ n ∧ Hid (wr.ownsRow w.heap.size 54 32 hv k ((ps.take k).flatMap fun p => p.1.id.map byteV)) ∧ Hid (Below w.heap.size w wr)) (fun _ iv _ => n - (intOf iv).toNat)
  case atStart => exact ⟨0, rfl, Nat.zero_le _, Lib.hid (by rw [List.take_zero]; exact World.ownsRow_nil _ _ _ _), Lib.hid (Below.refl _ _)⟩
  case round =>
    obtain ⟨k, rfl, hk, hrow, hb⟩ := hrel
    obtain ⟨Ah, ch, rfl, _⟩ := own_form hrow.out
    have hzr := hb.out.size
    by_cases hlt : k < n
    · have hlt1 : k < ps.length := by rw [← HN.out]; exact hlt
      obtain ⟨b, off, rfl, hbl, hr⟩ := HRG.out k hlt1
      have hpk := HALL.out _ (List.getElem_mem hlt1)
      have HR := Lib.hid (rangeAt_below hr hb.out hbl)
      have HL := Lib.hid hpk.len
      have HONE := Lib.hid hpk.one
      have HTK := Lib.hid (List.take_succ_eq_append_getElem hlt1)
      have i1 : (0 : Int) ≤ (k : Int) := by omega
      have i2 : (k : Int) < (n : Int) := by omega
      generalize ps[k] = x at *
      obtain ⟨hs, hhs⟩ : ∃ hs, hs = x.1.id.map byteV := ⟨_, rfl⟩
      have HSL := Lib.hid (show hs.length = 32 by rw [hhs, List.length_map]; exact hpk.1)
      have HSO := Lib.hid (show ∀ u ∈ hs, u.oneCell' = true by rw [hhs]; exact oneCell_bytes _)
      have HHS := Lib.hid hhs
      have HCS := Lib.hid (show dPair x = hs ++ [.int .i64 x.1.src, .int .u32 (x.1.tx.version : Int), x.2.1, x.2.2, .int .u64 (x.1.fin : Int)] by rw [hhs]; rfl)
      generalize dPair x = cs at *
      obtain ⟨wx, hwx⟩ : ∃ wx, wx = wr.alloc (.cells cs.toArray 56) := ⟨_, rfl⟩
      have HXR := Lib.hid (show wx.rangeAt wr.heap.size 0 hs from range_head (by have := bk_range (Bk.new wr 56 cs.toArray); rw [← hwx, HCS.out] at this; exact this))
      have HBRX := Lib.hid (show Below wr.heap.size wr wx by rw [hwx]; exact Joins.below_alloc1 _ _)
      have hzx : wx.heap.size = wr.heap.size + 1 := by rw [hwx]; simp
      clear hr hpk hhs
      go_upto_region 5 with (refine wpList_elem rfl rfl rfl 56 (.tmp 10) (.tmp 5) (.tmp 11) rfl rfl rfl b (off + k * 37) (by rfl) cs _ HR.out Tryd.underlying56 rfl (by rw [HL.out]; exact size_dent) ze HZE.out (by rw [HZEL.out, HL.out]) HONE.out (by rfl) (by rfl) ?_)
      rw [← hwx]
      clear hwx
      go_wp2_with (first
        | (refine wpList_load_mid rfl 54 (.tmp 13) rfl wr.heap.size 0 (by rfl) hs _ HXR.out Tryd.underlying54 rfl (by rw [HSL.out]; exact size_hash0) ?_)
        | (refine wpList_buildOne rfl 36 54 (.tmp 14) rfl hs.toArray (by rfl) Tryd.underlying36 (by rw [List.size_toArray, HSL.out]; exact size_hash0) zs HZ.out (by rw [List.size_toArray, HSL.out]; omega) (by rw [List.size_toArray, HSL.out]; omega) ?_)
        | (at_builtin; refine wpList_app _ rfl (.tmp 12) (.tmp 15) _ rfl w.heap.size 54 ih _ 32 32 Tryd.underlying36 Ii.out Iz.out Iz1.out Iz2.out rfl (by decide) (.slice Ah k ch) k _ (by rfl) (own_below (own_below hrow.out HBRX.out) (Joins.below_alloc1 _ _)) (some ⟨wx.heap.size, 0, none⟩) 1 1 hs (by rfl) (by rw [HSL.out]) (Src.new _ _ _) HSO.out (by unfold maxLen; omega) (by omega) (by simp; omega) ?_; intro v' w' hrow' hg' hat'; have HRW := Lib.hid hrow'; have HGR := Lib.hid hg'; have HAT := Lib.hid hat'; clear hrow' hg' hat'))
      have hkr : Kp (fun i => (Value.slice Ah k ch).ownBlock = some i) wr w' := ((Kp.of_below HBRX.out).trans ((Kp.refl _ _).alloc _)).trans ((Kp.refl _ _).grown HGR.out (fun i h _ => h))
      have HKR := Lib.hid hkr
      have HLT := Lib.hid (own_lt hrow.out)
      clear hkr
      go_roundw
      case rel => exact ⟨k + 1, by go_num, by omega, Lib.hid (by rw [HTK.out, List.flatMap_append, List.flatMap_singleton, ← HHS.out]; exact HRW.out), Lib.hid (Kp.from_elder hb.out HKR.out (fun i hi h => by have := (HLT.out i h).1; omega))⟩
      case measure => simp [intOf]; omega
    · obtain rfl : k = n := by omega
      have ht : ps.take k = ps := List.take_of_length_le (by rw [← HN.out]; exact Nat.le_refl _)
      rw [ht] at hrow
      go_wp2_with fail
      go_ret
      refine ⟨_, rfl, ⟨fun x hx => ?_, ?_⟩, hb.out⟩
      · obtain ⟨p, hp, rfl⟩ := List.mem_map.1 hx
        exact (HALL.out p hp).1
      · rw [List.length_map, ← HN.out]
        have := hrow.out
        rwa [show (ps.flatMap fun p => p.1.id.map byteV) = (ps.map (·.1.id)).flatMap fun x => x.map byteV by rw [List.flatMap_map]] at this
theorem dIds_any (ps : List EP) (B : Nat) (O : Nat) (v : Value) (w : World) (h : DPool B w O v ps) (hn : ps.length ≤ 1000) :
    Calls Tryd.prog 19 #[.pointer (some ⟨O, 0, none⟩)] w fun e w' => ∃ v, e = .returned v ∧ IdsAt w.heap.size w' v (ps.map (·.1.id)) ∧ Below w.heap.size w w' := by
  obtain ⟨A, c, hv, hc, hm, _⟩ := h.row
  have hk := h.all
  have hbk := h.bk
  have h := h.row
  subst hv
  have c0 : w.cell? ⟨O, 0, none⟩ = some (.slice A ps.length c) := (hbk.cell 0).trans rfl
  obtain ⟨n, hn'⟩ : ∃ n, n = ps.length := ⟨_, rfl⟩
  rw [← hn'] at hn c0
  have HN := Lib.hid hn'
  obtain ⟨A', c', hv', _, _, hrg⟩ := h
  injection hv' with e1 e2 e3
  subst e1 e3
  have HRG := Lib.hid hrg
  have HALL := Lib.hid hk
  obtain ⟨ih, hi, hz0, hz1', hz2'⟩ := info_parts hash_info0
  have Ii := Lib.hid hi
  have Iz := Lib.hid hz0
  have Iz1 := Lib.hid hz1'
  have Iz2 := Lib.hid hz2'
  obtain ⟨zs, hzs⟩ : ∃ zs, zs = ((List.replicate 32 (0 : UInt8)).map byteV).toArray := ⟨_, rfl⟩
  have HZ := Lib.hid (show (Tryd.prog.info? 54).map (·.zero) = some (some (.agg zs)) by rw [hzs]; exact zero_hash0)
  have HZL := Lib.hid (show zs.size = 32 by rw [hzs]; simp)
  have hZE := zero_dent
  have hZL := zeroDent_len
  generalize (dCells ⟨0, Txs.none, List.replicate 32 0, 0⟩ (.slice none 0 0) (.slice none 0 0)).toArray = ze at hZE hZL
  have HZE := Lib.hid hZE
  have HZEL := Lib.hid hZL
  clear e2 hn' hrg hk hi hz0 hz1' hz2' hzs hZE hZL
  go_enter Tryd.func19, Tryd.ntmps19
  go_wp2_with fail
  go_loopw [3, 11] (fun hv iv wr => ∃ k : Nat, iv = .int .i64 (k : Int) ∧ k ≤ n ∧ Hid (wr.ownsRow w.heap.size 54 32 hv k ((ps.take k).flatMap fun p => p.1.id.map byteV)) ∧ Hid (Below w.heap.size w wr)) (fun _ iv _ => n - (intOf iv).toNat)
  case atStart => exact ⟨0, rfl, Nat.zero_le _, Lib.hid (by rw [List.take_zero]; exact World.ownsRow_nil _ _ _ _), Lib.hid (Below.refl _ _)⟩
  case round =>
    obtain ⟨k, rfl, hk, hrow, hb⟩ := hrel
    obtain ⟨Ah, ch, rfl, _⟩ := own_form hrow.out
    have hzr := hb.out.size
    by_cases hlt : k < n
    · have hlt1 : k < ps.length := by rw [← HN.out]; exact hlt
      obtain ⟨b, off, rfl, hbl, hr⟩ := HRG.out k hlt1
      have hpk := HALL.out _ (List.getElem_mem hlt1)
      have HR := Lib.hid (rangeAt_below hr hb.out hbl)
      have HL := Lib.hid hpk.len
      have HONE := Lib.hid hpk.one
      have HTK := Lib.hid (List.take_succ_eq_append_getElem hlt1)
      have i1 : (0 : Int) ≤ (k : Int) := by omega
      have i2 : (k : Int) < (n : Int) := by omega
      generalize ps[k] = x at *
      obtain ⟨hs, hhs⟩ : ∃ hs, hs = x.1.id.map byteV := ⟨_, rfl⟩
      have HSL := Lib.hid (show hs.length = 32 by rw [hhs, List.length_map]; exact hpk.1)
      have HSO := Lib.hid (show ∀ u ∈ hs, u.oneCell' = true by rw [hhs]; exact oneCell_bytes _)
      have HHS := Lib.hid hhs
      have HCS := Lib.hid (show dPair x = hs ++ [.int .i64 x.1.src, .int .u32 (x.1.tx.version : Int), x.2.1, x.2.2, .int .u64 (x.1.fin : Int)] by rw [hhs]; rfl)
      generalize dPair x = cs at *
      obtain ⟨wx, hwx⟩ : ∃ wx, wx = wr.alloc (.cells cs.toArray 56) := ⟨_, rfl⟩
      have HXR := Lib.hid (show wx.rangeAt wr.heap.size 0 hs from range_head (by have := bk_range (Bk.new wr 56 cs.toArray); rw [← hwx, HCS.out] at this; exact this))
      have HBRX := Lib.hid (show Below wr.heap.size wr wx by rw [hwx]; exact Joins.below_alloc1 _ _)
      have hzx : wx.heap.size = wr.heap.size + 1 := by rw [hwx]; simp
      clear hr hpk hhs
      go_upto_region 5 with (refine wpList_elem rfl rfl rfl 56 (.tmp 13) (.tmp 5) (.tmp 14) rfl rfl rfl b (off + k * 37) (by rfl) cs _ HR.out Tryd.underlying56 rfl (by rw [HL.out]; exact size_dent) ze HZE.out (by rw [HZEL.out, HL.out]) HONE.out (by rfl) (by rfl) ?_)
      rw [← hwx]
      clear hwx
      go_wp2_with (first
        | (refine wpList_load_mid rfl 54 (.tmp 16) rfl wr.heap.size 0 (by rfl) hs _ HXR.out Tryd.underlying54 rfl (by rw [HSL.out]; exact size_hash0) ?_)
        | (refine wpList_buildOne rfl 36 54 (.tmp 17) rfl hs.toArray (by rfl) Tryd.underlying36 (by rw [List.size_toArray, HSL.out]; exact size_hash0) zs HZ.out (by rw [List.size_toArray, HSL.out]; omega) (by rw [List.size_toArray, HSL.out]; omega) ?_)
        | (at_builtin; refine wpList_app _ rfl (.tmp 15) (.tmp 18) _ rfl w.heap.size 54 ih _ 32 32 Tryd.underlying36 Ii.out Iz.out Iz1.out Iz2.out rfl (by decide) (.slice Ah k ch) k _ (by rfl) (own_below (own_below hrow.out HBRX.out) (Joins.below_alloc1 _ _)) (some ⟨wx.heap.size, 0, none⟩) 1 1 hs (by rfl) (by rw [HSL.out]) (Src.new _ _ _) HSO.out (by unfold maxLen; omega) (by omega) (by simp; omega) ?_; intro v' w' hrow' hg' hat'; have HRW := Lib.hid hrow'; have HGR := Lib.hid hg'; have HAT := Lib.hid hat'; clear hrow' hg' hat'))
      have hkr : Kp (fun i => (Value.slice Ah k ch).ownBlock = some i) wr w' := ((Kp.of_below HBRX.out).trans ((Kp.refl _ _).alloc _)).trans ((Kp.refl _ _).grown HGR.out (fun i h _ => h))
      have HKR := Lib.hid hkr
      have HLT := Lib.hid (own_lt hrow.out)
      clear hkr
      go_roundw
      case rel => exact ⟨k + 1, by go_num, by omega, Lib.hid (by rw [HTK.out, List.flatMap_append, List.flatMap_singleton, ← HHS.out]; exact HRW.out), Lib.hid (Kp.from_elder hb.out HKR.out (fun i hi h => by have := (HLT.out i h).1; omega))⟩
      case measure => simp [intOf]; omega
    · obtain rfl : k = n := by omega
      have ht : ps.take k = ps := List.take_of_length_le (by rw [← HN.out]; exact Nat.le_refl _)
      rw [ht] at hrow
      go_wp2_with fail
      go_ret
      refine ⟨_, rfl, ⟨fun x hx => ?_, ?_⟩, hb.out⟩
      · obtain ⟨p, hp, rfl⟩ := List.mem_map.1 hx
        exact (HALL.out p hp).1
      · rw [List.length_map, ← HN.out]
        have := hrow.out
        rwa [show (ps.flatMap fun p => p.1.id.map byteV) = (ps.map (·.1.id)).flatMap fun x => x.map byteV by rw [List.flatMap_map]] at this
theorem dhas_any (ps : List EP) (B : Nat) (O : Nat) (v : Value) (id : List UInt8) (hid : id.length = 32) (w : World) (hB : B ≤ w.heap.size) (h : DPool B w O v ps) (hn : ps.length ≤ 1000) :
    Calls Tryd.prog 36 #[.pointer (some ⟨O, 0, none⟩), .agg (id.map byteV).toArray] w fun e w' => e = .returned (.bool ((ps.map (·.1.id)).any fun x => decide (x = id))) ∧ Below w.heap.size w w' := by
  obtain ⟨ix, hix⟩ : ∃ ix, ix = id.map byteV := ⟨_, rfl⟩
  have HIX := Lib.hid hix
  have HIL := Lib.hid hid
  have HXL := Lib.hid (show ix.length = 32 by rw [hix, List.length_map]; exact hid)
  rw [← hix]
  obtain ⟨w1, hw1⟩ : ∃ w1, w1 = w.alloc (.cells ix.toArray 54) := ⟨_, rfl⟩
  have HB1 := Lib.hid (show Below w.heap.size w w1 by rw [hw1]; exact Joins.below_alloc1 _ _)
  have HX1 := Lib.hid (show Bk w1 w.heap.size 54 ix.toArray by rw [hw1]; exact Bk.new _ _ _)
  have HXR := Lib.hid (show w1.rangeAt w.heap.size 0 ix from bk_range HX1.out)
  have HIDS := Lib.hid (fun W (hW : Below w1.heap.size w1 W) => dIds_any ps B O v W (h.kp (S := fun _ => False) ((Kp.of_below HB1.out).trans (Kp.of_below hW)) hB (fun _ _ h => h) (fun h => h) (fun _ _ h => h)) hn)
  clear hix hid h
  go_enter Tryd.func36, Tryd.ntmps36
  go_upto_region 1 with (fail)
  rw [← hw1]
  clear hw1
  refine wp_region_L [(2, w.heap.size, 0, ix)] (by kernel_rfl) ?_
  refine wpAnyL_pure (i := 0) (v := ?_) rfl (by kernel_rfl) (by kernel_rfl) (by kernel_rfl) (fun _ _ _ h => h) (Or.inl ⟨by rfl, ?_⟩) ?_
  rotate_left
  · (intro w' _; go_simp <;> with_reducible rfl)
  simp only [Act.put, List.setIfInBounds_toArray, List.set_cons_zero, List.set_cons_succ, List.getElem_toArray, List.getElem_cons_zero, List.getElem_cons_succ]
  refine wpAnyL_load (i := 2) w.heap.size 0 ix (.head _) HXR.out rfl (by kernel_rfl) (by kernel_rfl) (by kernel_rfl) (fun _ _ _ h => h) (by rfl) 54 (.tmp 3) rfl (by rfl) _ Tryd.underlying54 rfl (by rw [HXL.out]; exact size_hash0) ?_
  simp only [Act.put, List.setIfInBounds_toArray, List.set_cons_zero, List.set_cons_succ, List.getElem_toArray, List.getElem_cons_zero, List.getElem_cons_succ]
  refine wpAnyL_ready (rs := [1]) (by kernel_rfl) (by simp) ?_
  refine (AllReadyL.cons rfl (fun K hK => ?_) AllReadyL.nil)
  go_simp
  refine (HIDS.out _ ((Below.refl w1.heap.size w1).drew)).mono ?_
  rintro e w2 ⟨vi, rfl, hids, hb2⟩
  go_wp2_with fail
  refine hK.out _ _ (Keeps.below hb2) ?_
  clear hK K
  try simp only [Act.put, List.setIfInBounds_toArray, List.set_cons_zero, List.set_cons_succ, List.getElem_toArray, List.getElem_cons_zero, List.getElem_cons_succ]
  obtain ⟨A2, c2, rfl, _, _, hat2⟩ := hids.at_
  have HB2 := Lib.hid (show Below w1.heap.size w1 w2 from ((Below.refl w1.heap.size w1).drew).trans hb2)
  have HRH := Lib.hid (rhas_any (ps.map (·.1.id)) A2 c2 w2.heap.size id HIL.out w2 hat2 (Nat.le_refl _) (by rw [List.length_map]; omega))
  rw [← HIX.out, List.length_map] at HRH
  clear hids hb2 hat2
  refine wpAnyL_ready (rs := [3]) (by kernel_rfl) (by simp) ?_
  refine (AllReadyL.cons rfl (fun K hK => ?_) AllReadyL.nil)
  go_simp
  refine HRH.out.mono ?_
  rintro e w3 ⟨rfl, hb3⟩
  go_wp2_with fail
  refine hK.out _ _ (Keeps.below hb3) ?_
  clear hK K
  try simp only [Act.put, List.setIfInBounds_toArray, List.set_cons_zero, List.set_cons_succ, List.getElem_toArray, List.getElem_cons_zero, List.getElem_cons_succ]
  have HB3 := Lib.hid (HB1.out.trans ((HB2.out.trans (hb3.mono HB2.out.size)).mono HB1.out.size))
  clear hb3
  refine wpAnyL_pure (i := 4) (v := ?_) rfl (by kernel_rfl) (by kernel_rfl) (by kernel_rfl) (fun _ _ _ h => h) (Or.inl ⟨by rfl, ?_⟩) ?_
  rotate_left
  · (intro w' _; go_simp <;> with_reducible rfl)
  simp only [Act.put, List.setIfInBounds_toArray, List.set_cons_zero, List.set_cons_succ, List.getElem_toArray, List.getElem_cons_zero, List.getElem_cons_succ]
  refine wpAnyL_done (by kernel_rfl) ?_ _
  go_wp2_with fail
  go_ret
  exact ⟨ret_bool (by simp [List.any_map, Function.comp_def]), HB3.out⟩
end Go.Proofs.YtacbibflhdmcoaaDoor.O14
/- The document's part: those that go, those that stay. -/
namespace Go.Proofs.YtacbibflhdmcoaaDoor.O14
open Go.RowKit Go.Deep T7
set_option linter.unusedVariables false
set_option linter.unusedSimpArgs false
set_option maxRecDepth 100000
set_option maxHeartbeats 2000000
attribute [local go_sem ↓] Go.wp_at_zero Go.wp_at_succ

theorem dpart_any (ps : List EP) (p : Ent → Bool) (B O q c : Nat) (v : Value) (w : World) (h : DPool B w O v ps) (hB : B ≤ w.heap.size) (hn : ps.length ≤ 1000) (hq : Bk w q 4 (ps.map fun x => (.bool (p x.1) : Value)).toArray) :
    Calls Tryd.prog 38 #[.pointer (some ⟨O, 0, none⟩), .slice (some ⟨q, 0, none⟩) ps.length c] w fun e w' =>
      ∃ vg vr, e = .returned vg ∧ DRow w' vg (gone p ps) ∧ (∀ x ∈ gone p ps, DOk B w' x) ∧ DPool B w' O vr (left p ps) ∧ (∀ i, vg.ownBlock = some i → w.heap.size ≤ i) ∧ (∀ i, vr.ownBlock = some i → w.heap.size ≤ i) ∧ Kp (fun i => i = O) w w' := by
  obtain ⟨n, hn'⟩ : ∃ n, n = ps.length := ⟨_, rfl⟩
  rw [← hn'] at hn ⊢
  obtain ⟨AV, cV, hv, hvc, hvm, hrg⟩ := h.row
  rw [← hn'] at hv
  subst hv
  have HRG := Lib.hid hrg
  have HN := Lib.hid hn'
  have HP := Lib.hid h
  have HQ := Lib.hid hq
  have c0 : w.cell? ⟨O, 0, none⟩ = some (.slice AV n cV) := (h.bk.cell 0).trans rfl
  have hOl : O < w.heap.size := h.bk.lt
  obtain ⟨ie, hi, hz0, hz1, hz2⟩ := info_parts dent_info
  have Ii := Lib.hid hi
  have Iz := Lib.hid hz0
  have Iz1 := Lib.hid hz1
  have Iz2 := Lib.hid hz2
  have hZL := zeroDent_len
  have hZE := zero_dent
  clear hi hz0 hz1 hz2 hrg h hq hn'
  generalize (dCells ⟨0, Txs.none, List.replicate 32 0, 0⟩ (.slice none 0 0) (.slice none 0 0)).toArray = ze at hZL Iz hZE
  have HZEL := Lib.hid hZL
  have HIZ := Lib.hid hZE
  clear hZL hZE
  go_enter Tryd.func38, Tryd.ntmps38
  go_wp2_with fail
  clear c0
  go_loopw [5, 6, 14] (fun vg vr iv wr => ∃ (k ng nr : Nat), iv = .int .i64 (k : Int) ∧ k ≤ n ∧ Hid (ng = (gone p (ps.take k)).length) ∧ Hid (nr = (left p (ps.take k)).length) ∧ Hid (wr.ownsRow w.heap.size 56 37 vg ng ((gone p (ps.take k)).flatMap dPair)) ∧
    Hid (wr.ownsRow w.heap.size 56 37 vr nr ((left p (ps.take k)).flatMap dPair)) ∧ Hid (∀ i, vg.ownBlock = some i → vr.ownBlock ≠ some i) ∧ Hid (Below w.heap.size w wr)) (fun _ _ iv _ => n - (intOf iv).toNat)
  case atStart => exact ⟨0, 0, 0, rfl, Nat.zero_le _, Lib.hid rfl, Lib.hid rfl, Lib.hid (by rw [List.take_zero]; exact World.ownsRow_nil _ _ _ _), Lib.hid (by rw [List.take_zero]; exact World.ownsRow_nil _ _ _ _), Lib.hid (fun i h => by simp [Value.ownBlock] at h), Lib.hid (Below.refl _ _)⟩
  case round =>
    obtain ⟨k, ng, nr, rfl, hk, hng, hnr, hog, hor, hdis, hb⟩ := hrel
    obtain ⟨hgl, hrl⟩ := gone_len p ps k
    rw [← hng.out] at hgl
    rw [← hnr.out] at hrl
    obtain ⟨Ag, cg, rfl, _⟩ := own_form hog.out
    obtain ⟨Ar, cr, rfl, _⟩ := own_form hor.out
    have hzr := hb.out.size
    by_cases hlt : k < n
    · have hlt1 : k < ps.length := by rw [← HN.out]; exact hlt
      obtain ⟨b, off, rfl, hbl, hr⟩ := HRG.out k hlt1
      have hpk : DOk B w ps[k] := HP.out.all _ (List.getElem_mem hlt1)
      have HR := Lib.hid (rangeAt_below hr hb.out hbl)
      have HL := Lib.hid hpk.len
      have HONE := Lib.hid hpk.one
      have HYES := Lib.hid (gone_snoc_yes (p := p) hlt1)
      have HNO := Lib.hid (gone_snoc_no (p := p) hlt1)
      have i1 : (0 : Int) ≤ (k : Int) := by omega
      have i2 : (k : Int) < (n : Int) := by omega
      obtain ⟨d, hd⟩ : ∃ d, d = p ps[k].1 := ⟨_, rfl⟩
      have hgo : w.cell? ⟨q, k, none⟩ = some (.bool d) := by
        rw [HQ.out.cell k, hd]
        simp [List.getElem?_toArray, hlt1]
      rw [← hd] at HYES HNO
      clear hd
      generalize ps[k] = x at *
      generalize hcs : dPair x = cs at *
      clear hr hpk
      obtain ⟨wx, hwx⟩ : ∃ wx, wx = wr.alloc (.cells cs.toArray 56) := ⟨_, rfl⟩
      have HX := Lib.hid (show Bk wx wr.heap.size 56 cs.toArray by rw [hwx]; exact Bk.new _ _ _)
      have hbx : Below w.heap.size w wx := by rw [hwx]; exact hb.out.alloc hb.out.size _
      have HBRX := Lib.hid (show Below wr.heap.size wr wx by rw [hwx]; exact Joins.below_alloc1 _ _)
      have hzx : wx.heap.size = wr.heap.size + 1 := by rw [hwx]; simp
      have hgx : wx.cell? ⟨q, k, none⟩ = some (.bool d) := (hbx.cell (p := ⟨q, k, none⟩) HQ.out.lt).trans hgo
      clear hbx hgo
      go_upto_region 5 with (refine wpList_elem2 rfl rfl rfl rfl 56 (.tmp 17) (.tmp 8) (.tmp 18) (.tmp 16) rfl rfl rfl rfl b (off + k * 37) (by rfl) cs _ HR.out Tryd.underlying56 rfl (by rw [HL.out]; exact size_dent) ze HIZ.out (by rw [HZEL.out, HL.out]) HONE.out (.int .i64 (k : Int)) (by rfl) (by rfl) (by rfl) ?_)
      rw [← hwx]
      clear hwx
      cases d with
      | true =>
        go_wp2_with (first
          | (refine wpList_load_row rfl 56 (.tmp 8) rfl wr.heap.size (by rfl) 56 cs.toArray (0, 0) _ HX.out Tryd.underlying56 rfl (by rw [List.size_toArray, HL.out]; exact size_dent) ?_)
          | (refine wpList_buildOne rfl 28 56 (.tmp 24) rfl cs.toArray (by rfl) Tryd.underlying28 (by simp only [List.size_toArray, HL.out]; exact size_dent) ze HIZ.out (by simp only [List.size_toArray, HL.out]; omega) (by simp only [List.size_toArray, HL.out]; omega) ?_)
          | (at_builtin; refine wpList_app _ rfl (.tmp 23) (.tmp 25) _ rfl w.heap.size 56 ie _ 37 104 Tryd.underlying28 Ii.out Iz.out Iz1.out Iz2.out HZEL.out (by decide) (.slice Ag ng cg) ng _ (by rfl) (own_below (own_below hog.out HBRX.out) (Joins.below_alloc1 _ _)) (some ⟨wx.heap.size, 0, none⟩) 1 1 cs (by rfl) (by rw [HL.out]) (Src.new _ _ _) HONE.out (by unfold maxLen; omega) (by omega) (by simp; omega) ?_; intro v' w' hrow' hg' hat'; have HRW := Lib.hid hrow'; have HGR := Lib.hid hg'; have HAT := Lib.hid hat'; clear hrow' hg' hat'))
        have hkg : Kp (fun i => (Value.slice Ag ng cg).ownBlock = some i) (wx.alloc (.cells cs.toArray 56)) w' := (Kp.refl _ _).grown HGR.out (fun i h _ => h)
        have hkr : Kp (fun i => (Value.slice Ag ng cg).ownBlock = some i) wr w' := ((Kp.of_below HBRX.out).trans ((Kp.refl _ _).alloc _)).trans hkg
        have HKR := Lib.hid hkr
        have HLT1 := Lib.hid (own_lt hog.out)
        have HLT2 := Lib.hid (own_lt hor.out)
        have HSZ := Lib.hid (show (wx.alloc (.cells cs.toArray 56)).heap.size = wx.heap.size + 1 by simp)
        clear hkg hkr
        go_roundw
        case rel =>
          have hs := HSZ.out
          have hat := HAT.out
          have hfresh : ∀ i, v'.ownBlock = some i → (Value.slice Ar nr cr).ownBlock ≠ some i := by
            intro i hi h'
            rcases hat with e | e
            · exact hdis.out i (e.symm.trans hi) h'
            · have := Option.some.inj (e.symm.trans hi)
              have := (HLT2.out i h').2
              omega
          have hbelow : Below w.heap.size w w' := Kp.from_elder hb.out HKR.out (fun i hi h => by have := (HLT1.out i h).1; omega)
          obtain ⟨y1, y2⟩ := HYES.out (by simp)
          refine ⟨k + 1, ng + 1, nr, by go_num, by omega, Lib.hid (by rw [y1, List.length_append, ← hng.out]; rfl), Lib.hid (by rw [y2]; exact hnr.out), Lib.hid (by rw [y1, List.flatMap_append, List.flatMap_singleton, hcs]; exact HRW.out), Lib.hid (by rw [y2]; exact own_kpo hor.out HKR.out (fun i hi h => hdis.out i h hi)), Lib.hid hfresh, Lib.hid hbelow⟩
        case measure => simp [intOf]; omega
      | false =>
        go_wp2_with (first
          | (refine wpList_load_row rfl 56 (.tmp 8) rfl wr.heap.size (by rfl) 56 cs.toArray (0, 0) _ HX.out Tryd.underlying56 rfl (by rw [List.size_toArray, HL.out]; exact size_dent) ?_)
          | (refine wpList_buildOne rfl 28 56 (.tmp 28) rfl cs.toArray (by rfl) Tryd.underlying28 (by simp only [List.size_toArray, HL.out]; exact size_dent) ze HIZ.out (by simp only [List.size_toArray, HL.out]; omega) (by simp only [List.size_toArray, HL.out]; omega) ?_)
          | (at_builtin; refine wpList_app _ rfl (.tmp 27) (.tmp 29) _ rfl w.heap.size 56 ie _ 37 104 Tryd.underlying28 Ii.out Iz.out Iz1.out Iz2.out HZEL.out (by decide) (.slice Ar nr cr) nr _ (by rfl) (own_below (own_below hor.out HBRX.out) (Joins.below_alloc1 _ _)) (some ⟨wx.heap.size, 0, none⟩) 1 1 cs (by rfl) (by rw [HL.out]) (Src.new _ _ _) HONE.out (by unfold maxLen; omega) (by omega) (by simp; omega) ?_; intro v' w' hrow' hg' hat'; have HRW := Lib.hid hrow'; have HGR := Lib.hid hg'; have HAT := Lib.hid hat'; clear hrow' hg' hat'))
        have hkg : Kp (fun i => (Value.slice Ar nr cr).ownBlock = some i) (wx.alloc (.cells cs.toArray 56)) w' := (Kp.refl _ _).grown HGR.out (fun i h _ => h)
        have hkr : Kp (fun i => (Value.slice Ar nr cr).ownBlock = some i) wr w' := ((Kp.of_below HBRX.out).trans ((Kp.refl _ _).alloc _)).trans hkg
        have HKR := Lib.hid hkr
        have HLT1 := Lib.hid (own_lt hor.out)
        have HLT2 := Lib.hid (own_lt hog.out)
        have HSZ := Lib.hid (show (wx.alloc (.cells cs.toArray 56)).heap.size = wx.heap.size + 1 by simp)
        clear hkg hkr
        go_roundw
        case rel =>
          have hs := HSZ.out
          have hat := HAT.out
          have hfresh : ∀ i, v'.ownBlock = some i → (Value.slice Ag ng cg).ownBlock ≠ some i := by
            intro i hi h'
            rcases hat with e | e
            · exact hdis.out i h' (e.symm.trans hi)
            · have := Option.some.inj (e.symm.trans hi)
              have := (HLT2.out i h').2
              omega
          have hbelow : Below w.heap.size w w' := Kp.from_elder hb.out HKR.out (fun i hi h => by have := (HLT1.out i h).1; omega)
          obtain ⟨y1, y2⟩ := HNO.out (by simp)
          refine ⟨k + 1, ng, nr + 1, by go_num, by omega, Lib.hid (by rw [y1]; exact hng.out), Lib.hid (by rw [y2, List.length_append, ← hnr.out]; rfl), Lib.hid (by rw [y1]; exact own_kpo hog.out HKR.out (fun i hi h => hdis.out i hi h)), Lib.hid (by rw [y2, List.flatMap_append, List.flatMap_singleton, hcs]; exact HRW.out), Lib.hid (fun i hi h' => hfresh i h' hi), Lib.hid hbelow⟩
        case measure => simp [intOf]; omega
    · obtain rfl : k = n := by omega
      have ht : ps.take k = ps := List.take_of_length_le (by rw [← HN.out]; exact Nat.le_refl _)
      rw [ht] at hng hnr hog hor
      have HOr := Lib.hid (HP.out.bk.below hb.out hOl)
      have c2 : wr.cell? ⟨O, 0, none⟩ = some (.slice AV k cV) := (HOr.out.cell 0).trans rfl
      have f2 := HOr.out.frozen 0
      go_wp2_with fail
      obtain ⟨wz, hwz⟩ : ∃ wz, wz = wr.setCell ⟨O, 0, none⟩ (.slice Ar nr cr) := ⟨_, rfl⟩
      have hk : Kp (fun i => i = O) wr wz := by rw [hwz]; exact kp_cell1 _ _ _ _
      have hO : Bk wz O 30 #[.slice Ar nr cr] := by rw [hwz]; exact HOr.out.set 0 _
      rw [← hwz]
      go_ret
      have hkw : Kp (fun i => i = O) w wz := (Kp.of_below hb.out).trans hk
      have hge := HP.out.ge
      have hlg := own_lt hog.out
      have hlr := own_lt hor.out
      have hpo : ∀ x ∈ ps, DOk B wz x := fun x hx => (HP.out.all x hx).kp hkw hB (fun i hi e => by omega)
      have hog' := own_kpo hog.out hk (fun i hi h => by have := (hlg i hi).1; omega)
      have hor' := own_kpo hor.out hk (fun i hi h => by have := (hlr i hi).1; omega)
      rw [hng.out] at hog'
      rw [hnr.out] at hor'
      have hzz := hk.size
      refine ⟨.slice Ag ng cg, .slice Ar nr cr, rfl, ?_, fun x hx => hpo x (List.mem_filter.1 hx).1, ⟨hO, ?_, fun x hx => hpo x (List.mem_filter.1 hx).1, hge, fun i hi => ⟨by have := (hlr i hi).1; omega, by have := (hlr i hi).1; omega, by have := (hlr i hi).2; omega⟩⟩, fun i hi => (hlg i hi).1, fun i hi => (hlr i hi).1, hkw⟩
      · rw [hng.out]; exact DRow.of_own hog' (fun x hx => (hpo x (List.mem_filter.1 hx).1).len)
      · rw [hnr.out]; exact DRow.of_own hor' (fun x hx => (hpo x (List.mem_filter.1 hx).1).len)
end Go.Proofs.YtacbibflhdmcoaaDoor.O14
/- The document's Leave and Expire. -/
namespace Go.Proofs.YtacbibflhdmcoaaDoor.O14
open Go.RowKit Go.Deep T7
set_option linter.unusedVariables false
set_option linter.unusedSimpArgs false
set_option maxRecDepth 100000
set_option maxHeartbeats 2000000
attribute [local go_sem ↓] Go.wp_at_zero Go.wp_at_succ

theorem bool_info : (Tryd.prog.info? 4).map (fun i => (i.zero, i.size, i.bytes)) = some (some (.bool false), 1, 1) := by kernel_rfl
/-- who goes, as far as it is known -/
def goesRow (p : Ent → Bool) (ps : List EP) (n k : Nat) : List Value := (ps.take k).map (fun x => (.bool (p x.1) : Value)) ++ List.replicate (n - k) (.bool false)
theorem goes_zero (p : Ent → Bool) (ps : List EP) (n : Nat) : madeCells (Value.bool false).cells (n * 1) = (goesRow p ps n 0).toArray := by
  unfold goesRow
  apply Array.ext
  · simp [size_madeCells]
  · intro i h1 h2
    simp [madeCells, Value.cells, Nat.mod_one]
theorem goes_len (p : Ent → Bool) (ps : List EP) (n k : Nat) (hk : k ≤ n) (hl : k ≤ ps.length) : (goesRow p ps n k).length = n := by
  unfold goesRow
  rw [List.length_append, List.length_map, List.length_take, List.length_replicate]
  omega
theorem goes_set (p : Ent → Bool) (ps : List EP) (n k : Nat) (hk : k < n) (hl : k < ps.length) : (goesRow p ps n k).set k (.bool (p ps[k].1)) = goesRow p ps n (k + 1) := by
  unfold goesRow
  rw [List.take_succ_eq_append_getElem hl, List.map_append, show n - k = (n - (k + 1)) + 1 by omega, List.replicate_succ]
  rw [List.set_append_right _ _ (by rw [List.length_map, List.length_take]; omega)]
  rw [List.length_map, List.length_take, show k - min k ps.length = 0 by omega]
  simp
theorem goes_full (p : Ent → Bool) (ps : List EP) (n : Nat) (hn : n = ps.length) : goesRow p ps n n = ps.map fun x => (.bool (p x.1) : Value) := by
  unfold goesRow
  rw [hn, List.take_of_length_le (Nat.le_refl _)]
  simp
theorem dent_cell {w : World} {x : EP} {t g : Nat} (h : Bk w g t (dPair x).toArray) (hl : x.1.id.length = 32) : w.cell? ⟨g, 32, none⟩ = some (.int .i64 x.1.src) ∧ w.cell? ⟨g, 36, none⟩ = some (.int .u64 (x.1.fin : Int)) := by
  constructor
  · rw [h.cell 32]
    simp only [List.getElem?_toArray, dPair, dCells]
    rw [List.getElem?_append_right (by rw [List.length_map, hl]; omega), List.length_map, hl]
    rfl
  · rw [h.cell 36]
    simp only [List.getElem?_toArray, dPair, dCells]
    rw [List.getElem?_append_right (by rw [List.length_map, hl]; omega), List.length_map, hl]
    rfl
def DOut (B : Nat) (w : World) (O : Nat) (ps : List EP) (p : Ent → Bool) (e : Ending) (w' : World) : Prop :=
  ∃ vi vr, e = .returned vi ∧ IdsAt w.heap.size w' vi ((gone p ps).map (·.1.id)) ∧ DPool B w' O vr (left p ps) ∧ (∀ i, vr.ownBlock = some i → w.heap.size ≤ i) ∧ Kp (fun i => i = O) w w'
theorem dleave_any (ps : List EP) (B O : Nat) (v : Value) (src : Int) (w : World) (h : DPool B w O v ps) (hB : B ≤ w.heap.size) (hn : ps.length ≤ 1000) :
    Calls Tryd.prog 15 #[.pointer (some ⟨O, 0, none⟩), .int .i64 src] w (DOut B w O ps fun x => decide (x.src = src)) := by
  obtain ⟨pp, hpp⟩ : ∃ pp : Ent → Bool, pp = fun x => decide (x.src = src) := ⟨_, rfl⟩
  have HPP := Lib.hid hpp
  rw [← hpp]
  obtain ⟨n, hn'⟩ : ∃ n, n = ps.length := ⟨_, rfl⟩
  rw [← hn'] at hn
  obtain ⟨AV, cV, hv, hvc, hvm, hrg⟩ := h.row
  rw [← hn'] at hv
  subst hv
  have HRG := Lib.hid hrg
  have HN := Lib.hid hn'
  have HP := Lib.hid h
  have hOl : O < w.heap.size := h.bk.lt
  have hmk := run_make_rows (P := Tryd.prog) 83 4 _ 1 1 Tryd.underlying83 bool_info .i64 .i64 n (by omega) (by omega)
  obtain ⟨z0, hz0⟩ : ∃ z0, z0 = madeCells (Value.bool false).cells (n * 1) := ⟨_, rfl⟩
  rw [← hz0] at hmk
  have hz1 : z0 = (goesRow pp ps n 0).toArray := by rw [hz0]; exact goes_zero pp ps n
  rw [hz1] at hmk
  obtain ⟨g0, hg0⟩ : ∃ g0, g0 = goesRow pp ps n 0 := ⟨_, rfl⟩
  rw [← hg0] at hmk
  have c0 : w.cell? ⟨O, 0, none⟩ = some (.slice AV n cV) := (h.bk.cell 0).trans rfl
  have hZL := zeroDent_len
  have hZE := zero_dent
  clear hz0 hz1 hrg h hn' hpp
  generalize (dCells ⟨0, Txs.none, List.replicate 32 0, 0⟩ (.slice none 0 0) (.slice none 0 0)).toArray = ze at hZL hZE
  have HZEL := Lib.hid hZL
  have HIZ := Lib.hid hZE
  clear hZL hZE
  obtain ⟨w1, hw1⟩ : ∃ w1, w1 = w.alloc (.cells g0.toArray 4) := ⟨_, rfl⟩
  have HG1 := Lib.hid (show Bk w1 w.heap.size 4 (goesRow pp ps n 0).toArray by rw [hw1, hg0]; exact Bk.new _ _ _)
  have hb1 : Below w.heap.size w w1 := by rw [hw1]; exact Joins.below_alloc1 _ _
  have HB1 := Lib.hid hb1
  have c1 : w1.cell? ⟨O, 0, none⟩ = some (.slice AV n cV) := (hb1.cell (p := ⟨O, 0, none⟩) hOl).trans c0
  obtain ⟨q, hq⟩ : ∃ q, q = w.heap.size := ⟨_, rfl⟩
  rw [← hq] at HG1
  have hqg : w.heap.size ≤ q := by omega
  clear hb1 hg0
  go_enter Tryd.func15, Tryd.ntmps15
  go_upto_region 2 with (fail)
  rw [← hw1, ← hq]
  clear hw1 hmk c0 hq
  go_wp2_with fail
  clear c1
  go_loopw [19] (fun iv wr => ∃ (k : Nat), iv = .int .i64 (k : Int) ∧ k ≤ n ∧ Hid (Bk wr q 4 (goesRow pp ps n k).toArray) ∧ Hid (Below w.heap.size w wr)) (fun iv _ => n - (intOf iv).toNat)
  case atStart => exact ⟨0, rfl, Nat.zero_le _, HG1, HB1⟩
  case round =>
    obtain ⟨k, rfl, hk, hg, hb⟩ := hrel
    have hzr := hb.out.size
    by_cases hlt : k < n
    · have hlt1 : k < ps.length := by rw [← HN.out]; exact hlt
      obtain ⟨b, off, rfl, hbl, hr⟩ := HRG.out k hlt1
      have hpk : DOk B w ps[k] := HP.out.all _ (List.getElem_mem hlt1)
      have HR := Lib.hid (rangeAt_below hr hb.out hbl)
      have HL := Lib.hid hpk.len
      have HONE := Lib.hid hpk.one
      have HSET := Lib.hid (goes_set pp ps n k hlt hlt1)
      have i1 : (0 : Int) ≤ (k : Int) := by omega
      have i2 : (k : Int) < (n : Int) := by omega
      generalize ps[k] = x at *
      obtain ⟨d, hd⟩ : ∃ d, d = pp x.1 := ⟨_, rfl⟩
      rw [← hd] at HSET
      rw [HPP.out] at hd
      obtain ⟨cs, hcs⟩ : ∃ cs, cs = dPair x := ⟨_, rfl⟩
      rw [← hcs] at HR HL HONE
      obtain ⟨wx, hwx⟩ : ∃ wx, wx = wr.alloc (.cells cs.toArray 56) := ⟨_, rfl⟩
      have hX : Bk wx wr.heap.size 56 (dPair x).toArray := by rw [hwx, ← hcs]; exact Bk.new _ _ _
      obtain ⟨x32, x36⟩ := dent_cell hX hpk.1
      have HBX := Lib.hid (show Below w.heap.size w wx by rw [hwx]; exact hb.out.alloc hb.out.size _)
      have hgx : Bk wx q 4 (goesRow pp ps n k).toArray := by rw [hwx]; exact hg.out.alloc _
      have HGX := Lib.hid hgx
      have hzx : wr.heap.size < wx.heap.size := hX.lt
      have gq : (wx.cell? ⟨q, k, none⟩).isSome = true := by
        rw [hgx.cell]
        simp only [List.getElem?_toArray]
        rw [List.getElem?_eq_getElem (by rw [goes_len pp ps n k hk (by rw [← HN.out]; exact hk)]; exact hlt)]; rfl
      obtain ⟨g1, hgc⟩ := Option.isSome_iff_exists.1 gq
      have gf := hgx.frozen k
      clear hr hcs hX hgx gq
      go_upto_region 5 with (refine wpList_elem2 rfl rfl rfl rfl 56 (.tmp 22) (.tmp 7) (.tmp 23) (.tmp 21) rfl rfl rfl rfl b (off + k * 37) (by rfl) cs _ HR.out Tryd.underlying56 rfl (by rw [HL.out]; exact size_dent) ze HIZ.out (by rw [HZEL.out, HL.out]) HONE.out (.int .i64 (k : Int)) (by rfl) (by rfl) (by rfl) ?_)
      rw [← hwx]
      clear hwx
      have hdv : (decide (x.1.src = src)) = d := hd.symm
      have hds : ((x.1.src == src) : Bool) = d := by rw [hd, Bool.eq_iff_iff, beq_iff_eq, decide_eq_true_iff]
      generalize x.1.src = s at *
      clear hd
      go_wp2_with fail
      go_roundw
      case rel => exact ⟨k + 1, by go_num, by omega, Lib.hid (by have := HGX.out.set k (.bool d); rw [List.setIfInBounds_toArray, HSET.out] at this; exact this), Lib.hid (HBX.out.setCell (p := ⟨q, k, none⟩) hqg _)⟩
      case measure => simp [intOf]; omega
    · obtain rfl : k = n := by omega
      have hfull := goes_full pp ps k HN.out
      rw [hfull] at hg
      have HPr := Lib.hid (show DPool B wr O (.slice AV k cV) ps from HP.out.kp (S := fun _ => False) (Kp.of_below hb.out) hB (fun _ _ h => h) (fun h => h) (fun _ _ h => h))
      have HPT := Lib.hid (dpart_any ps pp B O q k (.slice AV k cV) wr HPr.out (by omega) (by rw [← HN.out]; exact hn) hg.out)
      rw [← HN.out] at HPT
      go_wp2_with fail
      refine HPT.out.mono ?_
      rintro e w2 ⟨vg, vr, rfl, g1, g2, g3, g4, g5, g6⟩
      have g1' : DRow w2 vg (gone pp ps) := g1
      obtain ⟨Ag, cg, hvg, _⟩ := g1
      subst hvg
      have hz2 := g6.size
      have HID := Lib.hid (dids_any (gone pp ps) B Ag cg w2 g1' g2 (by have := (gone_len pp ps ps.length).1; rw [List.take_of_length_le (Nat.le_refl _)] at this; have := HN.out; omega))
      go_wp2_with fail
      refine HID.out.mono ?_
      rintro e w3 ⟨vi, rfl, hi3, hb3⟩
      go_wp2_with fail
      go_ret
      exact ⟨vi, vr, rfl, ⟨hi3.1, own_mono hi3.2 (by omega)⟩, g3.kp (S := fun _ => False) (Kp.of_below hb3) (by omega) (fun _ _ h => h) (fun h => h) (fun _ _ h => h), fun i hi => by have := g5 i hi; omega, ((Kp.of_below hb.out).trans_of g6 (fun _ _ h => h)).trans (Kp.of_below hb3)⟩
theorem dexpire_any (ps : List EP) (B O : Nat) (v : Value) (now : Nat) (w : World) (h : DPool B w O v ps) (hB : B ≤ w.heap.size) (hn : ps.length ≤ 1000) :
    Calls Tryd.prog 16 #[.pointer (some ⟨O, 0, none⟩), .int .u64 (now : Int)] w (DOut B w O ps fun x => decide (min (x.fin + 300) 18446744073709551615 ≤ now)) := by
  obtain ⟨pp, hpp⟩ : ∃ pp : Ent → Bool, pp = fun x => decide (min (x.fin + 300) 18446744073709551615 ≤ now) := ⟨_, rfl⟩
  have HPP := Lib.hid hpp
  rw [← hpp]
  obtain ⟨n, hn'⟩ : ∃ n, n = ps.length := ⟨_, rfl⟩
  rw [← hn'] at hn
  obtain ⟨AV, cV, hv, hvc, hvm, hrg⟩ := h.row
  rw [← hn'] at hv
  subst hv
  have HRG := Lib.hid hrg
  have HN := Lib.hid hn'
  have HP := Lib.hid h
  have hOl : O < w.heap.size := h.bk.lt
  have hmk := run_make_rows (P := Tryd.prog) 83 4 _ 1 1 Tryd.underlying83 bool_info .i64 .i64 n (by omega) (by omega)
  obtain ⟨z0, hz0⟩ : ∃ z0, z0 = madeCells (Value.bool false).cells (n * 1) := ⟨_, rfl⟩
  rw [← hz0] at hmk
  have hz1 : z0 = (goesRow pp ps n 0).toArray := by rw [hz0]; exact goes_zero pp ps n
  rw [hz1] at hmk
  obtain ⟨g0, hg0⟩ : ∃ g0, g0 = goesRow pp ps n 0 := ⟨_, rfl⟩
  rw [← hg0] at hmk
  have c0 : w.cell? ⟨O, 0, none⟩ = some (.slice AV n cV) := (h.bk.cell 0).trans rfl
  have hZL := zeroDent_len
  have hZE := zero_dent
  clear hz0 hz1 hrg h hn' hpp
  generalize (dCells ⟨0, Txs.none, List.replicate 32 0, 0⟩ (.slice none 0 0) (.slice none 0 0)).toArray = ze at hZL hZE
  have HZEL := Lib.hid hZL
  have HIZ := Lib.hid hZE
  clear hZL hZE
  obtain ⟨w1, hw1⟩ : ∃ w1, w1 = w.alloc (.cells g0.toArray 4) := ⟨_, rfl⟩
  have HG1 := Lib.hid (show Bk w1 w.heap.size 4 (goesRow pp ps n 0).toArray by rw [hw1, hg0]; exact Bk.new _ _ _)
  have hb1 : Below w.heap.size w w1 := by rw [hw1]; exact Joins.below_alloc1 _ _
  have HB1 := Lib.hid hb1
  have c1 : w1.cell? ⟨O, 0, none⟩ = some (.slice AV n cV) := (hb1.cell (p := ⟨O, 0, none⟩) hOl).trans c0
  obtain ⟨q, hq⟩ : ∃ q, q = w.heap.size := ⟨_, rfl⟩
  rw [← hq] at HG1
  have hqg : w.heap.size ≤ q := by omega
  clear hb1 hg0
  go_enter Tryd.func16, Tryd.ntmps16
  go_upto_region 2 with (fail)
  rw [← hw1, ← hq]
  clear hw1 hmk c0 hq
  go_wp2_with fail
  clear c1
  go_loopw [19] (fun iv wr => ∃ (k : Nat), iv = .int .i64 (k : Int) ∧ k ≤ n ∧ Hid (Bk wr q 4 (goesRow pp ps n k).toArray) ∧ Hid (Below w.heap.size w wr)) (fun iv _ => n - (intOf iv).toNat)
  case atStart => exact ⟨0, rfl, Nat.zero_le _, HG1, HB1⟩
  case round =>
    obtain ⟨k, rfl, hk, hg, hb⟩ := hrel
    have hzr := hb.out.size
    by_cases hlt : k < n
    · have hlt1 : k < ps.length := by rw [← HN.out]; exact hlt
      obtain ⟨b, off, rfl, hbl, hr⟩ := HRG.out k hlt1
      have hpk : DOk B w ps[k] := HP.out.all _ (List.getElem_mem hlt1)
      have HR := Lib.hid (rangeAt_below hr hb.out hbl)
      have HL := Lib.hid hpk.len
      have HONE := Lib.hid hpk.one
      have HSET := Lib.hid (goes_set pp ps n k hlt hlt1)
      have i1 : (0 : Int) ≤ (k : Int) := by omega
      have i2 : (k : Int) < (n : Int) := by omega
      generalize ps[k] = x at *
      obtain ⟨d, hd⟩ : ∃ d, d = pp x.1 := ⟨_, rfl⟩
      rw [← hd] at HSET
      rw [HPP.out] at hd
      obtain ⟨cs, hcs⟩ : ∃ cs, cs = dPair x := ⟨_, rfl⟩
      rw [← hcs] at HR HL HONE
      obtain ⟨wx, hwx⟩ : ∃ wx, wx = wr.alloc (.cells cs.toArray 56) := ⟨_, rfl⟩
      have hX : Bk wx wr.heap.size 56 (dPair x).toArray := by rw [hwx, ← hcs]; exact Bk.new _ _ _
      obtain ⟨x32, x36⟩ := dent_cell hX hpk.1
      have HBX := Lib.hid (show Below w.heap.size w wx by rw [hwx]; exact hb.out.alloc hb.out.size _)
      have hgx : Bk wx q 4 (goesRow pp ps n k).toArray := by rw [hwx]; exact hg.out.alloc _
      have HGX := Lib.hid hgx
      have hzx : wr.heap.size < wx.heap.size := hX.lt
      have gq : (wx.cell? ⟨q, k, none⟩).isSome = true := by
        rw [hgx.cell]
        simp only [List.getElem?_toArray]
        rw [List.getElem?_eq_getElem (by rw [goes_len pp ps n k hk (by rw [← HN.out]; exact hk)]; exact hlt)]; rfl
      obtain ⟨g1, hgc⟩ := Option.isSome_iff_exists.1 gq
      have gf := hgx.frozen k
      clear hr hcs hX hgx gq
      go_upto_region 5 with (refine wpList_elem2 rfl rfl rfl rfl 56 (.tmp 22) (.tmp 7) (.tmp 23) (.tmp 21) rfl rfl rfl rfl b (off + k * 37) (by rfl) cs _ HR.out Tryd.underlying56 rfl (by rw [HL.out]; exact size_dent) ze HIZ.out (by rw [HZEL.out, HL.out]) HONE.out (.int .i64 (k : Int)) (by rfl) (by rfl) (by rfl) ?_)
      rw [← hwx]
      clear hwx
      rw [show (fun x : Ent => decide (min (x.fin + 300) 18446744073709551615 ≤ now)) x.1 = decide (min (x.1.fin + 300) 18446744073709551615 ≤ now) from rfl] at hd
      have hfin : x.1.fin < 18446744073709551616 := hpk.2.1
      generalize x.1.fin = fin at *
      have HLT := Lib.hid (show ∀ W, Below wx.heap.size wx W → ∀ q', W.cell? ⟨q', 0, none⟩ = some (.int .u64 300) → Calls Tryd.prog 40 #[.int .u64 (fin : Int), .slice (some ⟨q', 0, none⟩) 1 1] W fun r w' => r = .returned (.int .u64 ((min (fin + 300) 18446744073709551615 : Nat) : Int)) ∧ W = w' from fun W _ q' hc => by
        have := reflater1 (fin : Int) 300 q' W (by omega) (by omega) (by omega) (by omega) hc
        rwa [later_nat fin] at this)
      generalize min (fin + 300) 18446744073709551615 = fm at *
      have hds : (decide ((fm : Int) ≤ (now : Int)) : Bool) = d := by rw [hd, decide_eq_decide]; omega
      have HD := Lib.hid hd
      clear hd
      obtain ⟨wL, hwL⟩ : ∃ wL, wL = wx.alloc (.cells #[.int .u64 300] 37) := ⟨_, rfl⟩
      have HGL := Lib.hid (show Bk wL q 4 (goesRow pp ps n k).toArray by rw [hwL]; exact HGX.out.alloc _)
      have HBL := Lib.hid (show Below w.heap.size w wL by rw [hwL]; exact HBX.out.alloc HBX.out.size _)
      have hgcL : wL.cell? ⟨q, k, none⟩ = some g1 := by rw [HGL.out.cell, ← HGX.out.cell]; exact hgc
      have gfL := HGL.out.frozen k
      have HL1 := Lib.hid (HLT.out wL (by rw [hwL]; exact Joins.below_alloc1 _ _) wx.heap.size (by rw [hwL]; exact ((Bk.new wx 37 #[.int .u64 300]).cell 0).trans rfl))
      clear hgc gf x32
      go_wp2_with fail
      rw [← hwL]
      clear hwL
      refine HL1.out.mono ?_
      rintro e w2 ⟨rfl, rfl⟩
      go_wp2_with fail
      go_roundw
      case rel => exact ⟨k + 1, by go_num, by omega, Lib.hid (by have := HGL.out.set k (.bool d); rw [List.setIfInBounds_toArray, HSET.out] at this; rw [← HD.out]; exact this), Lib.hid (HBL.out.setCell (p := ⟨q, k, none⟩) hqg _)⟩
      case measure => simp [intOf]; omega
    · obtain rfl : k = n := by omega
      have hfull := goes_full pp ps k HN.out
      rw [hfull] at hg
      have HPr := Lib.hid (show DPool B wr O (.slice AV k cV) ps from HP.out.kp (S := fun _ => False) (Kp.of_below hb.out) hB (fun _ _ h => h) (fun h => h) (fun _ _ h => h))
      have HPT := Lib.hid (dpart_any ps pp B O q k (.slice AV k cV) wr HPr.out (by omega) (by rw [← HN.out]; exact hn) hg.out)
      rw [← HN.out] at HPT
      go_wp2_with fail
      refine HPT.out.mono ?_
      rintro e w2 ⟨vg, vr, rfl, g1, g2, g3, g4, g5, g6⟩
      have g1' : DRow w2 vg (gone pp ps) := g1
      obtain ⟨Ag, cg, hvg, _⟩ := g1
      subst hvg
      have hz2 := g6.size
      have HID := Lib.hid (dids_any (gone pp ps) B Ag cg w2 g1' g2 (by have := (gone_len pp ps ps.length).1; rw [List.take_of_length_le (Nat.le_refl _)] at this; have := HN.out; omega))
      go_wp2_with fail
      refine HID.out.mono ?_
      rintro e w3 ⟨vi, rfl, hi3, hb3⟩
      go_wp2_with fail
      go_ret
      exact ⟨vi, vr, rfl, ⟨hi3.1, own_mono hi3.2 (by omega)⟩, g3.kp (S := fun _ => False) (Kp.of_below hb3) (by omega) (fun _ _ h => h) (fun h => h) (fun _ _ h => h), fun i hi => by have := g5 i hi; omega, ((Kp.of_below hb.out).trans_of g6 (fun _ _ h => h)).trans (Kp.of_below hb3)⟩
end Go.Proofs.YtacbibflhdmcoaaDoor.O14
