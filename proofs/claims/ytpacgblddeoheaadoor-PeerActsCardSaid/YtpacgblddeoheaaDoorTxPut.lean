/- Package tx: a transaction as bytes. -/
import Derived.Test.YtpacgblddeoheaaDoorTxF
import Derived.Test.YtpacgblddeoheaaDoorRefVar
import Derived.Deep.Upon
namespace Go.Proofs.YtpacgblddeoheaaDoor.T7
open Go.RowKit Go.Deep
set_option linter.unusedVariables false
set_option linter.unusedSimpArgs false
set_option maxRecDepth 100000
attribute [local go_sem ↓] Go.wp_at_zero Go.wp_at_succ

/-- a row of one's own has grown, and nothing else has changed -/
structure Grw (w w' : World) (v v' : Value) : Prop where
  kp : Kp (fun i => v.ownBlock = some i) w w'
  own : ∀ i, v'.ownBlock = some i → v.ownBlock = some i ∨ w.heap.size ≤ i
namespace Grw
variable {w w' w2 : World} {v v' v2 : Value}
theorem refl (w : World) (v : Value) : Grw w w v v := ⟨Kp.refl _ _, fun _ h => .inl h⟩
theorem trans (h : Grw w w' v v') (k : Grw w' w2 v' v2) : Grw w w2 v v2 :=
  ⟨h.kp.trans_of k.kp fun i hi hs => (h.own i hs).resolve_right (by omega), fun i hi => (k.own i hi).elim (h.own i) fun hl => .inr (Nat.le_trans h.kp.size hl)⟩
theorem of_below (h : Below w.heap.size w w') (v : Value) : Grw w w' v v := ⟨(Kp.of_below (S := fun _ => False) h).mono fun _ _ h => h.elim, fun _ h => .inl h⟩
theorem of_app (hg : w.grownBy w' v.ownBlock) (hat : v'.ownBlock = v.ownBlock ∨ v'.ownBlock = some w.heap.size) : Grw w w' v v' :=
  ⟨(Kp.refl _ w).grown hg fun k hk _ => hk, fun i hi => hat.elim (fun e => .inl (by rw [← e]; exact hi)) fun e => .inr (by rw [e] at hi; injection hi with hi; omega)⟩
theorem below {B base : Nat} {e : TypeId} {size n : Nat} {xs : List Value} (h : Grw w w' v v') (ho : w.ownsRow base e size v n xs) (hB : B ≤ base) (hs : B ≤ w.heap.size) : Below B w w' :=
  ⟨h.kp.os, h.kp.tape, h.kp.output, h.kp.size, fun i hi => h.kp.block i (by omega) fun e => by have := (ho.lt i e).1; omega⟩
theorem bk {g t : Nat} {cs : Array Value} (h : Grw w w' v v') (hb : Bk w g t cs) (hn : v.ownBlock ≠ some g) : Bk w' g t cs ∧ v'.ownBlock ≠ some g :=
  ⟨hb.kp h.kp hn, fun e => (h.own g e).elim hn fun hl => by have := hb.lt; omega⟩
end Grw
theorem own_app {w : World} {base m : Nat} {v : Value} {bs cs : List UInt8} {us : List Value} (h : w.ownsRow base 5 1 v (bs.length + m) (bs.map byteV ++ us)) (hu : us = cs.map byteV) (hm : m = cs.length) : OwnB w base v (bs ++ cs) := by
  subst hu; subst hm
  unfold OwnB
  rw [List.length_append, List.map_append]
  exact h
set_option maxHeartbeats 1000000 in
theorem fixed_any (base : Nat) (v : Value) (bs : List UInt8) (x n : Nat) (w : World) (ho : OwnB w base v bs) (hx : U64 x) (hn : n ≤ 8) (hl : bs.length ≤ 1000000) (hbase : base ≤ w.heap.size) :
    Calls Tryd.prog 85 #[v, .int .u64 (x : Int), .int .i64 (n : Int)] w fun e w' => ∃ v', e = .returned v' ∧ OwnB w' base v' (bs ++ Oct.le x n) ∧ Grw w w' v v' := by
  obtain ⟨i0, hi, hz0, hz1, hz2⟩ := info_parts byte_info
  have Hi := Lib.hid hi
  have Hz := Lib.hid hz0
  have Hz1 := Lib.hid hz1
  have Hz2 := Lib.hid hz2
  have HO := Lib.hid ho
  have HX := Lib.hid hx
  clear hi hz0 hz1 hz2 ho hx
  go_enter Tryd.func85, Tryd.ntmps85
  go_wp2_with fail
  go_loopw [0, 1, 8] (fun b y i wr => ∃ k : Nat, k ≤ n ∧ i = .int .i64 (k : Int) ∧ y = .int .u64 ((x / 256 ^ k : Nat) : Int) ∧ Hid (OwnB wr base b (bs ++ Oct.le x k)) ∧ Hid (Grw w wr v b)) (fun _ _ i _ => n - (intOf i).toNat)
  case atStart => exact ⟨0, Nat.zero_le _, rfl, by simp, Lib.hid (by simpa [Oct.le] using HO.out), Lib.hid (Grw.refl _ _)⟩
  case round =>
    obtain ⟨k, hk, rfl, rfl, hob, hgr⟩ := hrel
    by_cases hlt : k < n
    · have hy := Lib.hid (wrap_div256 (HX.out.div (256 ^ k)))
      have HB := Lib.hid (byteV_nat (x / 256 ^ k))
      have HN := Lib.hid (show x / 256 ^ (k + 1) = x / 256 ^ k / 256 by rw [Nat.pow_succ, Nat.div_div_eq_div_mul])
      have HL := Lib.hid (le_snoc x k)
      have hu := HX.out.div (256 ^ k)
      have HU := Lib.hid hu
      have hbz : (bs ++ Oct.le x k).length = bs.length + k := by rw [List.length_append, Oct.le_length]
      have HBZ := Lib.hid hbz
      have hws := hgr.out.kp.size
      clear hu hbz
      generalize x / 256 ^ k = y at *
      have hone : ∀ u ∈ [Value.int .u8 ((y : Int) % 256)], u.oneCell' = true := fun u hu => by rw [List.mem_singleton.1 hu]; rfl
      have HONE := Lib.hid hone
      clear hone
      go_wp2_with (at_builtin; refine wpList_app _ rfl (.tmp 10) (.tmp 13) _ rfl base 5 i0 _ 1 1 Tryd.underlying22 Hi.out Hz.out Hz1.out Hz2.out rfl (by decide) u0 (bs ++ Oct.le x k).length ((bs ++ Oct.le x k).map byteV) rfl (own_below hob.out (Joins.below_alloc1 _ _)) (some ⟨wr.heap.size, 0, none⟩) 1 1 [.int .u8 ((y : Int) % 256)] rfl rfl (Src.one _ _ _) HONE.out (by rw [HBZ.out]; unfold maxLen; omega) (by rw [HBZ.out]; omega) (by simp; omega) ?_; intro v2 w2 hrow2 hg2 hat2)
      go_roundw
      case rel =>
        refine ⟨k + 1, by omega, by go_num, ?_, Lib.hid ?_, Lib.hid (hgr.out.trans ((Grw.of_below (Joins.below_alloc1 _ _) _).trans (Grw.of_app hg2 hat2)))⟩
        · rw [HN.out]; exact congrArg (Value.int .u64) (by omega)
        · rw [HL.out, ← List.append_assoc]
          exact own_app hrow2 (show [Value.int .u8 ((y : Int) % 256)] = [UInt8.ofNat y].map byteV by rw [HB.out]; rfl) rfl
      case measure => simp [intOf]; omega
    · have hkn : k = n := by omega
      have HK := Lib.hid hkn
      clear hkn
      go_wp2_with fail
      go_ret
      exact ⟨_, rfl, by rw [← HK.out]; exact hob.out, hgr.out⟩
/-! ### Put -/
theorem Src.bk {w : World} {g t : Nat} {cs : Array Value} (h : Bk w g t cs) (o : Nat) (us : List Value) (hu : ∀ j u, us[j]? = some u → cs[o + j]? = some u) : Src w (some ⟨g, o, none⟩) us := by
  intro j u hj
  refine ⟨_, rfl, ?_⟩
  rw [Addr.add_mid, h.cell]
  exact hu j u hj
theorem in_hash {x : Txs.In} {u : Value} (hx : x.Ok) : ∀ j v, (x.hash.map byteV)[j]? = some v → (inCells x u).toArray[0 + j]? = some v := by
  intro j v hj
  simp only [Nat.zero_add, List.getElem?_toArray, inCells]
  rw [List.getElem?_append_left (List.getElem?_eq_some_iff.1 hj).1]
  exact hj
theorem out_lock {x : Txs.Out} (hx : x.Ok) : ∀ j v, (x.lock.map byteV)[j]? = some v → (outCells x).toArray[1 + j]? = some v := by
  intro j v hj
  rw [Nat.add_comm]
  simpa [List.getElem?_toArray, outCells] using hj
theorem out_value {w : World} {g t : Nat} {x : Txs.Out} (h : Bk w g t (outCells x).toArray) : w.cell? ⟨g, 0, none⟩ = some (.int .u64 (x.value : Int)) := by
  rw [h.cell]; rfl
theorem insB_snoc (l : List Txs.In) (k : Nat) (h : k < l.length) : Txs.insB (l.take (k + 1)) = Txs.insB (l.take k) ++ Txs.inB l[k] := by
  unfold Txs.insB; rw [List.take_succ_eq_append_getElem h, List.flatMap_append, List.flatMap_singleton]
theorem outsB_snoc (l : List Txs.Out) (k : Nat) (h : k < l.length) : Txs.outsB (l.take (k + 1)) = Txs.outsB (l.take k) ++ Txs.outB l[k] := by
  unfold Txs.outsB; rw [List.take_succ_eq_append_getElem h, List.flatMap_append, List.flatMap_singleton]
theorem flatMap_take_len {α : Type} (f : α → List UInt8) (l : List α) (k : Nat) : ((l.take k).flatMap f).length ≤ (l.flatMap f).length := by
  have : l.flatMap f = (l.take k).flatMap f ++ (l.drop k).flatMap f := by rw [← List.flatMap_append, List.take_append_drop]
  rw [this, List.length_append]; omega
theorem one_cells {n : Nat} (h : n < 256) : [Value.int .u8 (n : Int)] = (Txs.one n).map byteV := by
  unfold Txs.one
  show _ = [byteV (UInt8.ofNat n)]
  rw [← byteV_nat]
  rw [show (n : Int) % 256 = n by omega]
theorem one_cell_byte (n : Nat) : ∀ u ∈ [Value.int .u8 (n : Int)], u.oneCell' = true := fun u hu => by rw [List.mem_singleton.1 hu]; rfl
theorem results_tmp2 {fn : Func} {t u : Tmp} (h : fn.results = #[.tmp t, .tmp u]) (tmps : Array Value) (P : Program) (w : World) :
    (results fn tmps).run P w = .ok (.tuple #[tmps.getD t undef, tmps.getD u undef]) w := by
  simp [results, h]
theorem put_no (t : Txs.Tx) (A A' : Option Addr) (c c' B : Nat) (w : World) (h : TxAt w B t A c A' c') (hB : B ≤ w.heap.size) (hf : Txs.form t = false) :
    Calls Tryd.prog 65 #[txV t A c A' c'] w fun e w' => e = .returned (.tuple #[.slice none 0 0, .int .i64 5]) ∧ Below w.heap.size w w' := by
  have HF := fun W hb1 hb2 => form_any t A A' c c' B W (h.below hb1) hb2
  rw [hf] at HF
  unfold txV at HF ⊢
  have HFF := Lib.hid HF
  clear h hf HF
  go_enter Tryd.func65, Tryd.ntmps65
  go_wp2_with fail
  refine (HFF.out _ (Below.mono (Joins.below_alloc1 _ _) hB) (by simp; omega)).mono ?_
  rintro e w1 ⟨rfl, hb⟩
  go_wp2_with fail
  go_ret2
  exact ⟨rfl, (Joins.below_alloc1 _ _).trans (hb.mono (by simp))⟩
set_option maxHeartbeats 4000000 in
theorem put_yes (t : Txs.Tx) (A A' : Option Addr) (c c' B : Nat) (w : World) (h : TxAt w B t A c A' c') (hB : B ≤ w.heap.size) (hf : Txs.form t = true) :
    Calls Tryd.prog 65 #[txV t A c A' c'] w fun e w' => ∃ v, e = .returned (.tuple #[v, .int .i64 0]) ∧ OwnB w' w.heap.size v (Txs.bytes t) ∧ Below w.heap.size w w' := by
  have HF := fun W hb1 hb2 => form_any t A A' c c' B W (h.below hb1) hb2
  rw [hf] at HF
  obtain ⟨f1, f2, f3⟩ := Txs.form_iff.1 hf
  have HF1 := Lib.hid f1
  have hok := h.ok
  have hil := Txs.insB_len hok.2.1
  have hkl := Txs.keys_le f1
  have hol := Txs.outsB_len hok.2.2
  have hi900 : (Txs.insB t.ins).length ≤ 900 := by omega
  have ho400 : (Txs.outsB t.outs).length ≤ 400 := by omega
  have HOK := Lib.hid hok
  have HI := Lib.hid h.ins
  have HO := Lib.hid h.outs
  have HBY := Lib.hid (show Txs.bytes t = Oct.le t.version 4 ++ Txs.one t.ins.length ++ Txs.insB t.ins ++ Txs.one t.outs.length ++ Txs.outsB t.outs by unfold Txs.bytes; simp only [List.append_assoc])
  have hver : t.version < 4294967296 := hok.1
  have hver' : (t.version : Int) ≤ 4294967295 := by omega
  unfold txV at HF ⊢
  have HFF := Lib.hid HF
  clear HF
  generalize hv : t.version = ver at *
  obtain ⟨n, hn⟩ : ∃ n, n = t.ins.length := ⟨_, rfl⟩
  obtain ⟨m, hm⟩ : ∃ m, m = t.outs.length := ⟨_, rfl⟩
  rw [← hn] at HFF HBY f2 ⊢
  rw [← hm] at HFF HBY f3 ⊢
  have HN := Lib.hid hn
  have HM := Lib.hid hm
  clear hf hv hn hm hok hil hkl hol h f1
  obtain ⟨w1, hw1⟩ : ∃ w1, w1 = w.alloc (.cells #[.int .u32 (ver : Int), .slice A n c, .slice A' m c'] 49) := ⟨_, rfl⟩
  have HK := Lib.hid (show Bk w1 w.heap.size 49 #[.int .u32 (ver : Int), .slice A n c, .slice A' m c'] by rw [hw1]; exact Bk.new _ _ _)
  have HZ := Lib.hid (show w1.heap.size = w.heap.size + 1 by rw [hw1]; simp)
  have HW := Lib.hid (show Below w.heap.size w w1 by rw [hw1]; exact Joins.below_alloc1 _ _)
  obtain ⟨i0, hi, hz0, hz1, hz2⟩ := info_parts byte_info
  have Hi := Lib.hid hi
  have Hz := Lib.hid hz0
  have Hz1 := Lib.hid hz1
  have Hz2 := Lib.hid hz2
  clear hi hz0 hz1 hz2
  go_enter Tryd.func65, Tryd.ntmps65
  go_wp2_with fail
  rw [← hw1]
  clear hw1
  refine (HFF.out _ (HW.out.mono hB) (by rw [HZ.out]; omega)).mono ?_
  rintro e w2 ⟨rfl, hb2⟩
  have HB2 := Lib.hid hb2
  have HK2 := Lib.hid (HK.out.below hb2 HK.out.lt)
  have hz2 : w.heap.size + 1 ≤ w2.heap.size := by have := hb2.size; rw [HZ.out] at this; exact this
  have d0 : w2.cell? ⟨w.heap.size, 0, none⟩ = some (.int .u32 (ver : Int)) := (HK2.out.cell 0).trans rfl
  clear hb2 HFF
  go_wp2_with fail
  refine (fixed_any w2.heap.size (.slice none 0 0) [] ver 4 _ (own_nil _ _) (by unfold U64; omega) (by omega) (by simp) (Nat.le_refl _)).mono ?_
  rintro e w3 ⟨v3, rfl, ho3, hg3⟩
  rw [List.nil_append] at ho3
  have HO3 := Lib.hid ho3
  have HG3 := Lib.hid hg3
  have hl4 := Oct.le_length ver 4
  have HL4 := Lib.hid hl4
  have HK3 := Lib.hid (hg3.bk HK2.out (by simp [Value.ownBlock]))
  have e1 : w3.cell? ⟨w.heap.size, 1, none⟩ = some (.slice A n c) := (HK3.out.1.cell 1).trans rfl
  have hs3 := hg3.kp.size
  have hn8 : (n : Int) ≤ 8 := by omega
  have hm8 : (m : Int) ≤ 8 := by omega
  clear ho3 hg3 d0 hl4
  go_upto_region 5 with (at_builtin; refine wpList_app _ rfl (.tmp 16) (.tmp 21) _ rfl w2.heap.size 5 i0 _ 1 1 Tryd.underlying22 Hi.out Hz.out Hz1.out Hz2.out rfl (by decide) v3 (Oct.le ver 4).length ((Oct.le ver 4).map byteV) rfl (own_below HO3.out (Joins.below_alloc1 _ _)) (some ⟨w3.heap.size, 0, none⟩) 1 1 [.int .u8 (n : Int)] rfl rfl (Src.one _ _ _) (one_cell_byte n) (by rw [HL4.out]; unfold maxLen; omega) (by rw [HL4.out]; omega) (by simp; omega) ?_; intro v4 w4 hrow4 hg4 hat4)
  obtain ⟨hd, hhd⟩ : ∃ hd, hd = Oct.le ver 4 ++ Txs.one n := ⟨_, rfl⟩
  have HHD := Lib.hid hhd
  have HO4 := Lib.hid (show OwnB w4 w2.heap.size v4 hd by rw [hhd]; exact own_app hrow4 (one_cells (by omega)) rfl)
  have HG4 := Lib.hid (HG3.out.trans ((Grw.of_below (Joins.below_alloc1 _ _) _).trans (Grw.of_app hg4 hat4)))
  have HL := Lib.hid (show hd.length = 5 by rw [hhd, List.length_append, HL4.out]; rfl)
  have HK4 := Lib.hid (HG4.out.bk HK2.out (by simp [Value.ownBlock]))
  have e1' : w4.cell? ⟨w.heap.size, 1, none⟩ = some (.slice A n c) := (HK4.out.1.cell 1).trans rfl
  clear hrow4 hg4 hat4 hhd e1 HO3 HG3 HK3 hs3
  go_wp2_with fail
  have HI2 := Lib.hid (show InsAt w2 B A t.ins from HI.out.below ((HW.out.trans (HB2.out.mono (by rw [HZ.out]; omega))).mono hB))
  have hB2 : B ≤ w2.heap.size := by omega
  go_loopw [4, 26] (fun v i wr => ∃ k : Nat, k ≤ n ∧ i = .int .i64 (k : Int) ∧ Hid (OwnB wr w2.heap.size v (hd ++ Txs.insB (t.ins.take k))) ∧ Hid (Grw w2 wr (.slice none 0 0) v)) (fun _ i _ => n - (intOf i).toNat)
  case atStart => exact ⟨0, Nat.zero_le _, rfl, Lib.hid (by simpa [Txs.insB] using HO4.out), HG4⟩
  case round =>
    obtain ⟨k, hk, rfl, hob, hgr⟩ := hrel
    have HBL := Lib.hid (hgr.out.below (own_nil w2 w2.heap.size) (Nat.le_refl _) (Nat.le_refl _))
    by_cases hlt : k < n
    · have hlt2 : k < t.ins.length := by rw [← HN.out]; exact hlt
      obtain ⟨b, off, Ak, ck, rfl, hbB, hr, hxok, hkc, hkm, hkat⟩ := (HI2.out.below (HBL.out.mono hB2)).range hlt2
      have HR := Lib.hid hr
      have HXK := Lib.hid hxok
      have HAT := Lib.hid hkat
      have HSN := Lib.hid (insB_snoc t.ins k hlt2)
      have hk64 := HF1.out t.ins[k] (List.getElem_mem hlt2)
      have hple : (hd ++ Txs.insB (t.ins.take k)).length ≤ 905 := by
        rw [List.length_append, HL.out]
        have := flatMap_take_len Txs.inB t.ins k
        unfold Txs.insB at hi900 ⊢
        omega
      clear hr hxok hkat
      generalize t.ins[k] = x at *
      obtain ⟨P, hP⟩ : ∃ P, P = hd ++ Txs.insB (t.ins.take k) := ⟨_, rfl⟩
      rw [← hP] at hob hple
      have HP := Lib.hid hP
      have hxn := HXK.out.2
      have hxh := Lib.hid HXK.out.1
      have hne := (hob.out.lt : ∀ g, u4.ownBlock = some g → _)
      have HOWN := Lib.hid (own_below hob.out (Joins.below_alloc1 wr (.cells (inCells x (.slice Ak x.key.length ck)).toArray 97)))
      have HBX := Lib.hid (show Bk (wr.alloc (.cells (inCells x (.slice Ak x.key.length ck)).toArray 97)) wr.heap.size 97 (inCells x (.slice Ak x.key.length ck)).toArray from Bk.new _ _ _)
      have HNE := Lib.hid (show u4.ownBlock ≠ some wr.heap.size from fun e => by have := (hne _ e).2; omega)
      have HLN := Lib.hid (inCells_len HXK.out (.slice Ak x.key.length ck))
      have HONE := Lib.hid (inCells_one x Ak x.key.length ck)
      have HXB := Lib.hid (oneCell_bytes x.hash)
      have hws := hgr.out.kp.size
      have HBKY := Lib.hid (show BytesAt wr B Ak x.key from HAT.out)
      obtain ⟨ky, hky⟩ : ∃ ky, ky = x.key.length := ⟨_, rfl⟩
      rw [← hky] at HR HLN hkc hk64 HONE HBX HOWN
      have HKY := Lib.hid hky
      obtain ⟨cs, hcs⟩ : ∃ cs, cs = inCells x (.slice Ak ky ck) := ⟨_, rfl⟩
      rw [← hcs] at HR HLN HONE HBX HOWN
      have HCS := Lib.hid hcs
      have HSRC := Lib.hid (show Src (wr.alloc (.cells cs.toArray 97)) (some ⟨wr.heap.size, 0, none⟩) (x.hash.map byteV) from Src.bk HBX.out 0 _ (by rw [hcs]; exact in_hash HXK.out))
      have HZI := zero_in
      have HZL := Lib.hid zeroIn_len
      generalize (inCells ⟨List.replicate 32 0, 0, []⟩ (.slice none 0 0)).toArray = zs at *
      have HZZ := Lib.hid HZI
      have hk64' : (ky : Int) ≤ 64 := by omega
      clear hP hne hky hcs HZI
      go_wp2_with (first
        | (refine wpList_elem rfl rfl rfl 97 (.tmp 28) (.tmp 6) (.tmp 29) rfl rfl rfl b (off + k * 34) (by rfl) cs _ HR.out Tryd.underlying97 rfl (by rw [HLN.out]; exact size_in) zs HZZ.out (by rw [HZL.out, HLN.out]) HONE.out (by rfl) (by rfl) ?_)
        | (at_builtin; refine wpList_app _ rfl (.tmp 30) (.tmp 33) _ rfl w2.heap.size 5 i0 _ 1 1 Tryd.underlying22 Hi.out Hz.out Hz1.out Hz2.out rfl (by decide) u4 P.length (P.map byteV) rfl HOWN.out (some ⟨wr.heap.size, 0, none⟩) 32 32 (x.hash.map byteV) rfl (by rw [List.length_map, hxh.out]) HSRC.out HXB.out (by unfold maxLen; omega) (by omega) (by simp; omega) ?_; intro v5 w5 hrow5 hg5 hat5; have HG5 := Lib.hid ((Grw.of_below (Joins.below_alloc1 _ _) _).trans (Grw.of_app hg5 hat5)); have HO5 := Lib.hid (own_app hrow5 rfl hxh.out.symm); have HX5 := Lib.hid ((Grw.of_app hg5 hat5).bk HBX.out HNE.out); have c32 := in_n (by have := HX5.out.1; rwa [HCS.out] at this) HXK.out; have hs5 := HG5.out.kp.size))
      have HP5 := Lib.hid (show (P ++ x.hash).length = P.length + 32 by rw [List.length_append, hxh.out])
      refine (fixed_any w2.heap.size v5 (P ++ x.hash) x.n 4 _ HO5.out (by unfold U64; omega) (by omega) (by rw [HP5.out]; omega) (by omega)).mono ?_
      rintro e w6 ⟨v6, rfl, ho6, hg6⟩
      have HO6 := Lib.hid ho6
      have HX6 := Lib.hid (hg6.bk HX5.out.1 HX5.out.2)
      have HG6 := Lib.hid (HG5.out.trans hg6)
      have HP6 := Lib.hid (show (P ++ x.hash ++ Oct.le x.n 4).length = P.length + 36 by rw [List.length_append, HP5.out, Oct.le_length])
      have c33 := in_key (by have := HX6.out.1; rwa [HCS.out] at this) HXK.out
      have hs6 := HG6.out.kp.size
      clear ho6 hg6 c32 hrow5 hg5 hat5 HO5 hs5 HOWN HSRC
      go_wp2_with (first
        | (at_builtin; refine wpList_app _ rfl (.tmp 41) (.tmp 46) _ rfl w2.heap.size 5 i0 _ 1 1 Tryd.underlying22 Hi.out Hz.out Hz1.out Hz2.out rfl (by decide) v6 (P ++ x.hash ++ Oct.le x.n 4).length ((P ++ x.hash ++ Oct.le x.n 4).map byteV) rfl (own_below HO6.out (Joins.below_alloc1 _ _)) (some ⟨w6.heap.size, 0, none⟩) 1 1 [.int .u8 (ky : Int)] rfl rfl (Src.one _ _ _) (one_cell_byte ky) (by rw [HP6.out]; unfold maxLen; omega) (by rw [HP6.out]; omega) (by simp; omega) ?_; intro v7 w7 hrow7 hg7 hat7; have HG67 := Lib.hid ((Grw.of_below (Joins.below_alloc1 _ _) _).trans (Grw.of_app hg7 hat7)); have HO7 := Lib.hid (own_app hrow7 (one_cells (by omega)) rfl); have HX7 := Lib.hid (HG67.out.bk HX6.out.1 HX6.out.2); have HG7 := Lib.hid (HG6.out.trans HG67.out); have c33' := in_key (by have := HX7.out.1; rwa [HCS.out] at this) HXK.out; have hs7 := HG7.out.kp.size; have HS7 := Lib.hid (BytesAt.src (At.below HBKY.out ((HG7.out.below hob.out (Nat.le_refl _) hws).mono hB2))); have HP7 := Lib.hid (show (P ++ x.hash ++ Oct.le x.n 4 ++ Txs.one ky).length = P.length + 37 by rw [List.length_append, HP6.out]; rfl))
        | (at_builtin; refine wpList_app _ rfl (.tmp 48) (.tmp 50) _ rfl w2.heap.size 5 i0 _ 1 1 Tryd.underlying22 Hi.out Hz.out Hz1.out Hz2.out rfl (by decide) v7 (P ++ x.hash ++ Oct.le x.n 4 ++ Txs.one ky).length ((P ++ x.hash ++ Oct.le x.n 4 ++ Txs.one ky).map byteV) rfl HO7.out Ak ky ck (x.key.map byteV) rfl (by rw [List.length_map, ← HKY.out, Nat.mul_one]) HS7.out (oneCell_bytes _) (by rw [HP7.out]; unfold maxLen; omega) (by rw [HP7.out]; omega) (by omega) ?_; intro v8 w8 hrow8 hg8 hat8))
      go_roundw
      case rel =>
        refine ⟨k + 1, by omega, by go_num, Lib.hid ?_, Lib.hid ((hgr.out.trans HG7.out).trans (Grw.of_app hg8 hat8))⟩
        have := own_app hrow8 rfl HKY.out
        rw [HSN.out, ← List.append_assoc, ← HP.out]
        unfold Txs.inB
        rw [← HKY.out]
        simpa only [List.append_assoc] using this
      case measure => simp [intOf]; omega
    · have hkn : k = n := by omega
      have HTK := Lib.hid (show t.ins.take k = t.ins from List.take_of_length_le (by rw [hkn, HN.out]; exact Nat.le_refl _))
      have hob' := hob.out
      rw [HTK.out] at hob'
      obtain ⟨P, hP⟩ : ∃ P, P = hd ++ Txs.insB t.ins := ⟨_, rfl⟩
      rw [← hP] at hob'
      have HPP := Lib.hid hP
      have HOB := Lib.hid hob'
      have hpl : P.length ≤ 905 := by rw [hP, List.length_append, HL.out]; omega
      have HKR := Lib.hid (hgr.out.bk HK2.out (by simp [Value.ownBlock]))
      have r2 : wr.cell? ⟨w.heap.size, 2, none⟩ = some (.slice A' m c') := (HKR.out.1.cell 2).trans rfl
      have hws := hgr.out.kp.size
      clear hkn hP hob' hob HTK e1' HO4 HG4 HK4
      go_upto_region 14 with (at_builtin; refine wpList_app _ rfl (.tmp 53) (.tmp 58) _ rfl w2.heap.size 5 i0 _ 1 1 Tryd.underlying22 Hi.out Hz.out Hz1.out Hz2.out rfl (by decide) u4 P.length (P.map byteV) rfl (own_below HOB.out (Joins.below_alloc1 _ _)) (some ⟨wr.heap.size, 0, none⟩) 1 1 [.int .u8 (m : Int)] rfl rfl (Src.one _ _ _) (one_cell_byte m) (by unfold maxLen; omega) (by omega) (by simp; omega) ?_; intro v9 w9 hrow9 hg9 hat9)
      have HG9 := Lib.hid (hgr.out.trans ((Grw.of_below (Joins.below_alloc1 _ _) _).trans (Grw.of_app hg9 hat9)))
      have HO9 := Lib.hid (own_app hrow9 (one_cells (by omega)) rfl)
      have HK9 := Lib.hid (HG9.out.bk HK2.out (by simp [Value.ownBlock]))
      have r2' : w9.cell? ⟨w.heap.size, 2, none⟩ = some (.slice A' m c') := (HK9.out.1.cell 2).trans rfl
      obtain ⟨hd2, hhd2⟩ : ∃ hd2, hd2 = P ++ Txs.one m := ⟨_, rfl⟩
      rw [← hhd2] at HO9
      have hl2 : hd2.length ≤ 906 := by rw [hhd2, List.length_append]; show _ + 1 ≤ _; omega
      have HHD2 := Lib.hid hhd2
      clear hrow9 hg9 hat9 hhd2 r2 HOB HKR hgr
      go_wp2_with fail
      have HO2 := Lib.hid (show OutsAt w2 B A' t.outs from At.below HO.out ((HW.out.trans (HB2.out.mono (by rw [HZ.out]; omega))).mono hB))
      go_loopw [4, 63] (fun v i wr => ∃ k : Nat, k ≤ m ∧ i = .int .i64 (k : Int) ∧ Hid (OwnB wr w2.heap.size v (hd2 ++ Txs.outsB (t.outs.take k))) ∧ Hid (Grw w2 wr (.slice none 0 0) v)) (fun _ i _ => m - (intOf i).toNat)
      case atStart => exact ⟨0, Nat.zero_le _, rfl, Lib.hid (by simpa [Txs.outsB] using HO9.out), HG9⟩
      case round =>
        obtain ⟨j, hj, rfl, hob, hgr⟩ := hrel
        have HBL := Lib.hid (hgr.out.below (own_nil w2 w2.heap.size) (Nat.le_refl _) (Nat.le_refl _))
        by_cases hlt : j < m
        · have hlt2 : j < t.outs.length := by rw [← HM.out]; exact hlt
          obtain ⟨b, off, rfl, hbB, hr, hxok⟩ := OutsAt.range (At.below HO2.out (HBL.out.mono hB2)) hlt2
          have HR := Lib.hid hr
          have HXK := Lib.hid hxok
          have HSN := Lib.hid (outsB_snoc t.outs j hlt2)
          have hple : (hd2 ++ Txs.outsB (t.outs.take j)).length ≤ 1306 := by
            rw [List.length_append]
            have := flatMap_take_len Txs.outB t.outs j
            unfold Txs.outsB at ho400 ⊢
            omega
          clear hr hxok
          generalize t.outs[j] = x at *
          obtain ⟨P2, hP2⟩ : ∃ P2, P2 = hd2 ++ Txs.outsB (t.outs.take j) := ⟨_, rfl⟩
          rw [← hP2] at hob hple
          have HP2 := Lib.hid hP2
          have hxv := HXK.out.1
          have HXV := Lib.hid hxv
          have hxh := Lib.hid HXK.out.2
          have hne := (hob.out.lt : ∀ g, _ = some g → _)
          have HOWN := Lib.hid (own_below hob.out (Joins.below_alloc1 _ (.cells (outCells x).toArray 158)))
          have HBX := Lib.hid (fun (W : World) => (show Bk (W.alloc (.cells (outCells x).toArray 158)) W.heap.size 158 (outCells x).toArray from Bk.new _ _ _))
          have HLN := Lib.hid (outCells_len HXK.out)
          have HONE := Lib.hid (outCells_one x)
          have HXB := Lib.hid (oneCell_bytes x.lock)
          have hws := hgr.out.kp.size
          obtain ⟨cs, hcs⟩ : ∃ cs, cs = outCells x := ⟨_, rfl⟩
          rw [← hcs] at HR HLN HONE HBX HOWN
          have HCS := Lib.hid hcs
          have HZO := zero_out
          have HZL := Lib.hid zeroOut_len
          generalize (outCells ⟨0, List.replicate 32 0⟩).toArray = zs at *
          have HZZ := Lib.hid HZO
          clear hP2 hcs HZO hxv
          go_wp2_with (first
            | (refine wpList_elem rfl rfl rfl 158 (.tmp 65) (.tmp 8) (.tmp 66) rfl rfl rfl b (off + j * 33) (by rfl) cs _ HR.out Tryd.underlying158 rfl (by rw [HLN.out]; exact size_out) zs HZZ.out (by rw [HZL.out, HLN.out]) HONE.out (by rfl) (by rfl) ?_; have HBX2 := Lib.hid (HBX.out wr); have c0 : (wr.alloc (.cells cs.toArray 158)).cell? ⟨wr.heap.size, 0, none⟩ = some (.int .u64 (x.value : Int)) := (by rw [HCS.out]; exact out_value (Bk.new _ _ _))))
          refine (fixed_any w2.heap.size u4 P2 x.value 8 _ HOWN.out HXV.out (by omega) (by omega) (by simp; omega)).mono ?_
          rintro e w10 ⟨v10, rfl, ho10, hg10⟩
          have HNE := Lib.hid (show u4.ownBlock ≠ some wr.heap.size from fun e => by have := (hne _ e).2; omega)
          have HO10 := Lib.hid ho10
          have HX10 := Lib.hid (hg10.bk HBX2.out HNE.out)
          have HG10 := Lib.hid ((Grw.of_below (Joins.below_alloc1 _ _) _).trans hg10)
          have HS10 := Lib.hid (show Src w10 (some ⟨wr.heap.size, 1, none⟩) (x.lock.map byteV) from Src.bk HX10.out.1 1 _ (by rw [HCS.out]; exact out_lock HXK.out))
          have HP10 := Lib.hid (show (P2 ++ Oct.le x.value 8).length = P2.length + 8 by rw [List.length_append, Oct.le_length])
          have hs10 := HG10.out.kp.size
          clear ho10 hg10 c0 hne HOWN
          go_wp2_with (at_builtin; refine wpList_app _ rfl (.tmp 71) (.tmp 73) _ rfl w2.heap.size 5 i0 _ 1 1 Tryd.underlying22 Hi.out Hz.out Hz1.out Hz2.out rfl (by decide) v10 (P2 ++ Oct.le x.value 8).length ((P2 ++ Oct.le x.value 8).map byteV) rfl HO10.out (some ⟨wr.heap.size, 1, none⟩) 32 32 (x.lock.map byteV) rfl (by rw [List.length_map, hxh.out]) HS10.out HXB.out (by rw [HP10.out]; unfold maxLen; omega) (by rw [HP10.out]; omega) (by omega) ?_; intro v11 w11 hrow11 hg11 hat11)
          go_roundw
          case rel =>
            refine ⟨j + 1, by omega, by go_num, Lib.hid ?_, Lib.hid ((hgr.out.trans HG10.out).trans (Grw.of_app hg11 hat11))⟩
            have := own_app hrow11 rfl hxh.out.symm
            rw [HSN.out, ← List.append_assoc, ← HP2.out]
            unfold Txs.outB
            simpa only [List.append_assoc] using this
          case measure => simp [intOf]; omega
        · have HTK := Lib.hid (show t.outs.take j = t.outs from List.take_of_length_le (by rw [show j = m by omega, HM.out]; exact Nat.le_refl _))
          have hob' := hob.out
          rw [HTK.out, HHD2.out, HPP.out, HHD.out] at hob'
          have HOB := Lib.hid hob'
          have HEND := Lib.hid (HW.out.trans ((HB2.out.trans (HBL.out.mono HB2.out.size)).mono (by rw [HZ.out]; omega)))
          clear hob' hob HTK
          go_wp2_with fail
          refine bodyPost_ret (results_tmp2 rfl _ _ _) rfl ?_
          exact ⟨u4, rfl, by rw [HBY.out]; exact own_mono HOB.out (by omega), HEND.out⟩
end Go.Proofs.YtpacgblddeoheaaDoor.T7
