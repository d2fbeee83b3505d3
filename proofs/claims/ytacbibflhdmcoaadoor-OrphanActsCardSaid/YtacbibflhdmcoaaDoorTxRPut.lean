/- The document's bytes of a transaction. -/
import Derived.Test.YtacbibflhdmcoaaDoorTxRForm
import Derived.Test.YtacbibflhdmcoaaDoorRefVar
import Derived.Test.YtacbibflhdmcoaaDoorRef02
namespace Go.Proofs.YtacbibflhdmcoaaDoor.T7
open Go.RowKit Go.Deep
set_option linter.unusedVariables false
set_option linter.unusedSimpArgs false
set_option maxRecDepth 100000
attribute [local go_sem ↓] Go.wp_at_zero Go.wp_at_succ

theorem own_lt7 {w : World} {base : Nat} {e : TypeId} {size : Nat} {v : Value} {n : Nat} {xs : List Value} (h : w.ownsRow base e size v n xs) : ∀ i, v.ownBlock = some i → base ≤ i ∧ i < w.heap.size := fun i hi => h.lt i hi
theorem Grw.of_new {w w' : World} {v : Value} {bs : List UInt8} (hb : Below w.heap.size w w') (ho : OwnB w' w.heap.size v bs) : Grw w w' (.slice none 0 0) v :=
  ⟨(Kp.of_below (S := fun _ => False) hb).mono fun _ _ h => h.elim, fun i hi => .inr (own_lt7 ho i hi).1⟩
theorem rnum_any (x n : Nat) (hx : U64 x) (hn : n = 1 ∨ n = 2 ∨ n = 4 ∨ n = 8) (hf : x < 256 ^ n) (w : World) :
    Calls Tryd.prog 66 #[.int .u64 (x : Int), .int .i64 (n : Int)] w fun r w' => ∃ v, r = .returned v ∧ OwnB w' w.heap.size v (Oct.le x n) ∧ Below w.heap.size w w' := by
  have HP := Lib.hid (rput_yes x n hx hn w)
  have HF := Lib.hid hf
  clear hx hn hf
  go_enter Tryd.func66, Tryd.ntmps66
  go_wp2_with fail
  refine HP.out.mono ?_
  rintro e w1 ⟨v, er, rfl, _, h2, hb⟩
  obtain ⟨ho, rfl⟩ := h2 HF.out
  have HO := Lib.hid ho
  have HB := Lib.hid hb
  clear h2 ho hb
  go_wp2_with fail
  go_ret
  exact ⟨v, rfl, HO.out, HB.out⟩
theorem rnum_at (x n : Nat) (hx : U64 x) (hn : n = 1 ∨ n = 2 ∨ n = 4 ∨ n = 8) (hf : x < 256 ^ n) (w : World) :
    Calls Tryd.prog 66 #[.int .u64 (x : Int), .int .i64 (n : Int)] w fun r w' => ∃ A cap, r = .returned (.slice A n cap) ∧ Src w' A ((Oct.le x n).map byteV) ∧ Below w.heap.size w w' := by
  refine (rnum_any x n hx hn hf w).mono ?_
  rintro e w' ⟨v, rfl, ho, hb⟩
  obtain ⟨A, cap, rfl, _, _, ha, _⟩ := ho.at_
  rw [Oct.le_length]
  exact ⟨A, cap, rfl, BytesAt.src ha, hb⟩
theorem rvar_at (x : Nat) (hx : x < 253) (w : World) :
    Calls Tryd.prog 67 #[.int .u64 (x : Int)] w fun r w' => ∃ A cap, r = .returned (.slice A 1 cap) ∧ Src w' A ((Txs.one x).map byteV) ∧ Below w.heap.size w w' := by
  refine (rvar_any x (by unfold U64; omega) w).mono ?_
  rintro e w' ⟨v, rfl, ho, hb⟩
  rw [Txs.one_var hx] at ho
  obtain ⟨A, cap, rfl, _, _, ha, _⟩ := ho.at_
  exact ⟨A, cap, rfl, BytesAt.src ha, hb⟩
theorem one_len (n : Nat) : (Txs.one n).length = 1 := rfl
theorem rput7_no (t : Txs.Tx) (A A' : Option Addr) (c c' B : Nat) (w : World) (h : TxAt w B t A c A' c') (hB : B ≤ w.heap.size) (hf : Txs.form t = false) :
    Calls Tryd.prog 59 #[txV t A c A' c'] w fun e w' => e = .returned (.tuple #[.slice none 0 0, .int .i64 5]) ∧ Below w.heap.size w w' := by
  have HF := fun W hb1 hb2 => rform_any t A A' c c' B W (h.below hb1) hb2
  rw [hf] at HF
  unfold txV at HF ⊢
  have HFF := Lib.hid HF
  clear h hf HF
  go_enter Tryd.func59, Tryd.ntmps59
  go_wp2_with fail
  refine (HFF.out _ (Below.mono (Joins.below_alloc1 _ _) hB) (by simp; omega)).mono ?_
  rintro e w1 ⟨rfl, hb⟩
  go_wp2_with fail
  go_ret2
  exact ⟨rfl, (Joins.below_alloc1 _ _).trans (hb.mono (by simp))⟩
set_option maxHeartbeats 4000000 in
theorem rput7_yes (t : Txs.Tx) (A A' : Option Addr) (c c' B : Nat) (w : World) (h : TxAt w B t A c A' c') (hB : B ≤ w.heap.size) (hf : Txs.form t = true) :
    Calls Tryd.prog 59 #[txV t A c A' c'] w fun e w' => ∃ v, e = .returned (.tuple #[v, .int .i64 0]) ∧ OwnB w' w.heap.size v (Txs.bytes t) ∧ Below w.heap.size w w' := by
  have HF := fun W hb1 hb2 => rform_any t A A' c c' B W (h.below hb1) hb2
  rw [hf] at HF
  obtain ⟨f1, f2, f3⟩ := Txs.form_iff.1 hf
  have HF1 := Lib.hid f1
  have hok := h.ok
  have hil := Txs.insB_len hok.2.1
  have hkl := Txs.keys_le f1
  have hol := Txs.outsB_len hok.2.2
  have hi900 : (Txs.insB t.ins).length ≤ 900 := by omega
  have ho400 : (Txs.outsB t.outs).length ≤ 400 := by omega
  have HOK := Lib.hid hok
  have HI := Lib.hid h.ins
  have HO := Lib.hid h.outs
  have HBY := Lib.hid (show Txs.bytes t = Oct.le t.version 4 ++ Txs.one t.ins.length ++ Txs.insB t.ins ++ Txs.one t.outs.length ++ Txs.outsB t.outs by unfold Txs.bytes; simp only [List.append_assoc])
  have hver : t.version < 4294967296 := hok.1
  have hver' : (t.version : Int) ≤ 4294967295 := by omega
  unfold txV at HF ⊢
  have HFF := Lib.hid HF
  clear HF
  generalize hv : t.version = ver at *
  obtain ⟨n, hn⟩ : ∃ n, n = t.ins.length := ⟨_, rfl⟩
  obtain ⟨m, hm⟩ : ∃ m, m = t.outs.length := ⟨_, rfl⟩
  rw [← hn] at HFF HBY f2 ⊢
  rw [← hm] at HFF HBY f3 ⊢
  have HN := Lib.hid hn
  have HM := Lib.hid hm
  clear hf hv hn hm hok hil hkl hol h f1
  obtain ⟨w1, hw1⟩ : ∃ w1, w1 = w.alloc (.cells #[.int .u32 (ver : Int), .slice A n c, .slice A' m c'] 35) := ⟨_, rfl⟩
  have HK := Lib.hid (show Bk w1 w.heap.size 35 #[.int .u32 (ver : Int), .slice A n c, .slice A' m c'] by rw [hw1]; exact Bk.new _ _ _)
  have HZ := Lib.hid (show w1.heap.size = w.heap.size + 1 by rw [hw1]; simp)
  have HW := Lib.hid (show Below w.heap.size w w1 by rw [hw1]; exact Joins.below_alloc1 _ _)
  obtain ⟨i0, hi, hz0, hz1, hz2⟩ := info_parts byte_info
  have Hi := Lib.hid hi
  have Hz := Lib.hid hz0
  have Hz1 := Lib.hid hz1
  have Hz2 := Lib.hid hz2
  clear hi hz0 hz1 hz2
  go_enter Tryd.func59, Tryd.ntmps59
  go_wp2_with fail
  rw [← hw1]
  clear hw1
  refine (HFF.out _ (HW.out.mono hB) (by rw [HZ.out]; omega)).mono ?_
  rintro e w2 ⟨rfl, hb2⟩
  have HB2 := Lib.hid hb2
  have HK2 := Lib.hid (HK.out.below hb2 HK.out.lt)
  have hz2 : w.heap.size + 1 ≤ w2.heap.size := by have := hb2.size; rw [HZ.out] at this; exact this
  have d0 : w2.cell? ⟨w.heap.size, 0, none⟩ = some (.int .u32 (ver : Int)) := (HK2.out.cell 0).trans rfl
  clear hb2 HFF
  go_wp2_with fail
  refine (rnum_any ver 4 (by unfold U64; omega) (by omega) (by omega) w2).mono ?_
  rintro e w3 ⟨v3, rfl, ho3, hb3⟩
  have hg3 := Grw.of_new hb3 ho3
  have HO3 := Lib.hid ho3
  have HG3 := Lib.hid hg3
  have hl4 := Oct.le_length ver 4
  have HL4 := Lib.hid hl4
  have HK3 := Lib.hid (hg3.bk HK2.out (by simp [Value.ownBlock]))
  have e1 : w3.cell? ⟨w.heap.size, 1, none⟩ = some (.slice A n c) := (HK3.out.1.cell 1).trans rfl
  have hs3 := hg3.kp.size
  have hn8 : (n : Int) ≤ 8 := by omega
  have hm8 : (m : Int) ≤ 8 := by omega
  clear ho3 hg3 d0 hl4 hb3
  go_wp2_with fail
  refine (rvar_at n (by omega) w3).mono ?_
  rintro e wa ⟨Aa, ca, rfl, hsa, hba⟩
  have hza := hba.size
  have HSA := Lib.hid hsa
  have HBA := Lib.hid hba
  clear hsa hba
  go_upto_region 5 with (at_builtin; refine wpList_app _ rfl (.tmp 16) (.tmp 21) _ rfl w2.heap.size 5 i0 _ 1 1 Tryd.underlying89 Hi.out Hz.out Hz1.out Hz2.out rfl (by decide) v3 (Oct.le ver 4).length ((Oct.le ver 4).map byteV) rfl (own_below HO3.out HBA.out) Aa 1 ca ((Txs.one n).map byteV) rfl rfl HSA.out (oneCell_bytes _) (by rw [HL4.out]; unfold maxLen; omega) (by rw [HL4.out]; omega) (by omega) ?_; intro v4 w4 hrow4 hg4 hat4)
  obtain ⟨hd, hhd⟩ : ∃ hd, hd = Oct.le ver 4 ++ Txs.one n := ⟨_, rfl⟩
  have HHD := Lib.hid hhd
  have HO4 := Lib.hid (show OwnB w4 w2.heap.size v4 hd by rw [hhd]; exact own_app hrow4 rfl rfl)
  have HG4 := Lib.hid (HG3.out.trans ((Grw.of_below HBA.out _).trans (Grw.of_app hg4 hat4)))
  have HL := Lib.hid (show hd.length = 5 by rw [hhd, List.length_append, HL4.out]; rfl)
  have HK4 := Lib.hid (HG4.out.bk HK2.out (by simp [Value.ownBlock]))
  have e1' : w4.cell? ⟨w.heap.size, 1, none⟩ = some (.slice A n c) := (HK4.out.1.cell 1).trans rfl
  clear hrow4 hg4 hat4 hhd e1 HO3 HG3 HK3 hs3
  go_wp2_with fail
  have HI2 := Lib.hid (show InsAt w2 B A t.ins from HI.out.below ((HW.out.trans (HB2.out.mono (by rw [HZ.out]; omega))).mono hB))
  have hB2 : B ≤ w2.heap.size := by omega
  go_loopw [4, 26] (fun v i wr => ∃ k : Nat, k ≤ n ∧ i = .int .i64 (k : Int) ∧ Hid (OwnB wr w2.heap.size v (hd ++ Txs.insB (t.ins.take k))) ∧ Hid (Grw w2 wr (.slice none 0 0) v)) (fun _ i _ => n - (intOf i).toNat)
  case atStart => exact ⟨0, Nat.zero_le _, rfl, Lib.hid (by simpa [Txs.insB] using HO4.out), HG4⟩
  case round =>
    obtain ⟨k, hk, rfl, hob, hgr⟩ := hrel
    have HBL := Lib.hid (hgr.out.below (own_nil w2 w2.heap.size) (Nat.le_refl _) (Nat.le_refl _))
    by_cases hlt : k < n
    · have hlt2 : k < t.ins.length := by rw [← HN.out]; exact hlt
      obtain ⟨b, off, Ak, ck, rfl, hbB, hr, hxok, hkc, hkm, hkat⟩ := (HI2.out.below (HBL.out.mono hB2)).range hlt2
      have HR := Lib.hid hr
      have HXK := Lib.hid hxok
      have HAT := Lib.hid hkat
      have HSN := Lib.hid (insB_snoc t.ins k hlt2)
      have hk64 := HF1.out t.ins[k] (List.getElem_mem hlt2)
      have hple : (hd ++ Txs.insB (t.ins.take k)).length ≤ 905 := by
        rw [List.length_append, HL.out]
        have := flatMap_take_len Txs.inB t.ins k
        unfold Txs.insB at hi900 ⊢
        omega
      clear hr hxok hkat
      generalize t.ins[k] = x at *
      obtain ⟨P, hP⟩ : ∃ P, P = hd ++ Txs.insB (t.ins.take k) := ⟨_, rfl⟩
      rw [← hP] at hob hple
      have HP := Lib.hid hP
      have hxn := HXK.out.2
      have hxh := Lib.hid HXK.out.1
      have hne := (hob.out.lt : ∀ g, u4.ownBlock = some g → _)
      have HOWN := Lib.hid (own_below hob.out (Joins.below_alloc1 wr (.cells (inCells x (.slice Ak x.key.length ck)).toArray 91)))
      have HBX := Lib.hid (show Bk (wr.alloc (.cells (inCells x (.slice Ak x.key.length ck)).toArray 91)) wr.heap.size 91 (inCells x (.slice Ak x.key.length ck)).toArray from Bk.new _ _ _)
      have HNE := Lib.hid (show u4.ownBlock ≠ some wr.heap.size from fun e => by have := (hne _ e).2; omega)
      have HLN := Lib.hid (inCells_len HXK.out (.slice Ak x.key.length ck))
      have HONE := Lib.hid (inCells_one x Ak x.key.length ck)
      have HXB := Lib.hid (oneCell_bytes x.hash)
      have hws := hgr.out.kp.size
      have HBKY := Lib.hid (show BytesAt wr B Ak x.key from HAT.out)
      obtain ⟨ky, hky⟩ : ∃ ky, ky = x.key.length := ⟨_, rfl⟩
      rw [← hky] at HR HLN hkc hk64 HONE HBX HOWN
      have HKY := Lib.hid hky
      obtain ⟨cs, hcs⟩ : ∃ cs, cs = inCells x (.slice Ak ky ck) := ⟨_, rfl⟩
      rw [← hcs] at HR HLN HONE HBX HOWN
      have HCS := Lib.hid hcs
      have HSRC := Lib.hid (show Src (wr.alloc (.cells cs.toArray 91)) (some ⟨wr.heap.size, 0, none⟩) (x.hash.map byteV) from Src.bk HBX.out 0 _ (by rw [hcs]; exact in_hash HXK.out))
      have HZI := zero_in
      have HZL := Lib.hid zeroIn_len
      generalize (inCells ⟨List.replicate 32 0, 0, []⟩ (.slice none 0 0)).toArray = zs at *
      have HZZ := Lib.hid HZI
      have hk64' : (ky : Int) ≤ 64 := by omega
      clear hP hne hky hcs HZI
      go_wp2_with (first
        | (refine wpList_elem rfl rfl rfl 91 (.tmp 28) (.tmp 6) (.tmp 29) rfl rfl rfl b (off + k * 34) (by rfl) cs _ HR.out Tryd.underlying91 rfl (by rw [HLN.out]; exact size_in) zs HZZ.out (by rw [HZL.out, HLN.out]) HONE.out (by rfl) (by rfl) ?_)
        | (at_builtin; refine wpList_app _ rfl (.tmp 30) (.tmp 33) _ rfl w2.heap.size 5 i0 _ 1 1 Tryd.underlying89 Hi.out Hz.out Hz1.out Hz2.out rfl (by decide) u4 P.length (P.map byteV) rfl HOWN.out (some ⟨wr.heap.size, 0, none⟩) 32 32 (x.hash.map byteV) rfl (by rw [List.length_map, hxh.out]) HSRC.out HXB.out (by unfold maxLen; omega) (by omega) (by simp; omega) ?_; intro v5 w5 hrow5 hg5 hat5; have HG5 := Lib.hid ((Grw.of_below (Joins.below_alloc1 _ _) _).trans (Grw.of_app hg5 hat5)); have HO5 := Lib.hid (own_app hrow5 rfl hxh.out.symm); have HX5 := Lib.hid ((Grw.of_app hg5 hat5).bk HBX.out HNE.out); have c32 := in_n (by have := HX5.out.1; rwa [HCS.out] at this) HXK.out; have hs5 := HG5.out.kp.size))
      have HP5 := Lib.hid (show (P ++ x.hash).length = P.length + 32 by rw [List.length_append, hxh.out])
      refine (rnum_at x.n 4 (by unfold U64; omega) (by omega) (by omega) w5).mono ?_
      rintro e wb ⟨Ab, cb, rfl, hsb, hbb⟩
      have hzb := hbb.size
      have HSB := Lib.hid hsb
      have HBB := Lib.hid hbb
      have HOB5 := Lib.hid (own_below HO5.out hbb)
      have HLB : Hid (((Oct.le x.n 4).map byteV).length = 4 * 1) := Lib.hid (by rw [List.length_map, Oct.le_length])
      clear hsb hbb c32
      go_upto_region 10 with (at_builtin; refine wpList_app _ rfl (.tmp 35) (.tmp 40) _ rfl w2.heap.size 5 i0 _ 1 1 Tryd.underlying89 Hi.out Hz.out Hz1.out Hz2.out rfl (by decide) v5 (P ++ x.hash).length ((P ++ x.hash).map byteV) rfl HOB5.out Ab 4 cb ((Oct.le x.n 4).map byteV) rfl HLB.out HSB.out (oneCell_bytes _) (by rw [HP5.out]; unfold maxLen; omega) (by rw [HP5.out]; omega) (by omega) ?_; intro v6 w6 hrow6 hg6' hat6)
      have hg6 : Grw w5 w6 v5 v6 := (Grw.of_below HBB.out _).trans (Grw.of_app hg6' hat6)
      have HO6 := Lib.hid (own_app hrow6 rfl (Oct.le_length x.n 4).symm)
      have HX6 := Lib.hid (hg6.bk HX5.out.1 HX5.out.2)
      have HG6 := Lib.hid (HG5.out.trans hg6)
      have HP6 := Lib.hid (show (P ++ x.hash ++ Oct.le x.n 4).length = P.length + 36 by rw [List.length_append, HP5.out, Oct.le_length])
      have c33 := in_key (by have := HX6.out.1; rwa [HCS.out] at this) HXK.out
      have hs6 := HG6.out.kp.size
      clear hg6 hg6' hat6 hrow6 hrow5 hg5 hat5 HO5 hs5 HOWN HSRC HSB HBB HOB5 HLB hzb
      go_wp2_with fail
      refine (rvar_at ky (by omega) w6).mono ?_
      rintro e wc ⟨Ac, cc, rfl, hsc, hbc⟩
      have hzc := hbc.size
      have HSC := Lib.hid hsc
      have HBC := Lib.hid hbc
      have c33 := in_key (by have := HX6.out.1.below hbc HX6.out.1.lt; rwa [HCS.out] at this) HXK.out
      clear hsc hbc
      go_wp2_with (first
        | (at_builtin; refine wpList_app _ rfl (.tmp 42) (.tmp 47) _ rfl w2.heap.size 5 i0 _ 1 1 Tryd.underlying89 Hi.out Hz.out Hz1.out Hz2.out rfl (by decide) v6 (P ++ x.hash ++ Oct.le x.n 4).length ((P ++ x.hash ++ Oct.le x.n 4).map byteV) rfl (own_below HO6.out HBC.out) Ac 1 cc ((Txs.one ky).map byteV) rfl rfl HSC.out (oneCell_bytes _) (by rw [HP6.out]; unfold maxLen; omega) (by rw [HP6.out]; omega) (by omega) ?_; intro v7 w7 hrow7 hg7 hat7; have HG67 := Lib.hid ((Grw.of_below HBC.out _).trans (Grw.of_app hg7 hat7)); have HO7 := Lib.hid (own_app hrow7 rfl rfl); have HX7 := Lib.hid (HG67.out.bk HX6.out.1 HX6.out.2); have HG7 := Lib.hid (HG6.out.trans HG67.out); have c33' := in_key (by have := HX7.out.1; rwa [HCS.out] at this) HXK.out; have hs7 := HG7.out.kp.size; have HS7 := Lib.hid (BytesAt.src (At.below HBKY.out ((HG7.out.below hob.out (Nat.le_refl _) hws).mono hB2))); have HP7 := Lib.hid (show (P ++ x.hash ++ Oct.le x.n 4 ++ Txs.one ky).length = P.length + 37 by rw [List.length_append, HP6.out]; rfl))
        | (at_builtin; refine wpList_app _ rfl (.tmp 49) (.tmp 51) _ rfl w2.heap.size 5 i0 _ 1 1 Tryd.underlying89 Hi.out Hz.out Hz1.out Hz2.out rfl (by decide) v7 (P ++ x.hash ++ Oct.le x.n 4 ++ Txs.one ky).length ((P ++ x.hash ++ Oct.le x.n 4 ++ Txs.one ky).map byteV) rfl HO7.out Ak ky ck (x.key.map byteV) rfl (by rw [List.length_map, ← HKY.out, Nat.mul_one]) HS7.out (oneCell_bytes _) (by rw [HP7.out]; unfold maxLen; omega) (by rw [HP7.out]; omega) (by omega) ?_; intro v8 w8 hrow8 hg8 hat8))
      go_roundw
      case rel =>
        refine ⟨k + 1, by omega, by go_num, Lib.hid ?_, Lib.hid ((hgr.out.trans HG7.out).trans (Grw.of_app hg8 hat8))⟩
        have := own_app hrow8 rfl HKY.out
        rw [HSN.out, ← List.append_assoc, ← HP.out]
        unfold Txs.inB
        rw [← HKY.out]
        simpa only [List.append_assoc] using this
      case measure => simp [intOf]; omega
    · have hkn : k = n := by omega
      have HTK := Lib.hid (show t.ins.take k = t.ins from List.take_of_length_le (by rw [hkn, HN.out]; exact Nat.le_refl _))
      have hob' := hob.out
      rw [HTK.out] at hob'
      obtain ⟨P, hP⟩ : ∃ P, P = hd ++ Txs.insB t.ins := ⟨_, rfl⟩
      rw [← hP] at hob'
      have HPP := Lib.hid hP
      have HOB := Lib.hid hob'
      have hpl : P.length ≤ 905 := by rw [hP, List.length_append, HL.out]; omega
      have HKR := Lib.hid (hgr.out.bk HK2.out (by simp [Value.ownBlock]))
      have r2 : wr.cell? ⟨w.heap.size, 2, none⟩ = some (.slice A' m c') := (HKR.out.1.cell 2).trans rfl
      have hws := hgr.out.kp.size
      clear hkn hP hob' hob HTK e1' HO4 HG4 HK4
      go_wp2_with fail
      refine (rvar_at m (by omega) wr).mono ?_
      rintro e wd ⟨Ad, cd, rfl, hsd, hbd⟩
      have hzd := hbd.size
      have HSD := Lib.hid hsd
      have HBD := Lib.hid hbd
      clear hsd hbd
      go_upto_region 14 with (at_builtin; refine wpList_app _ rfl (.tmp 54) (.tmp 59) _ rfl w2.heap.size 5 i0 _ 1 1 Tryd.underlying89 Hi.out Hz.out Hz1.out Hz2.out rfl (by decide) u4 P.length (P.map byteV) rfl (own_below HOB.out HBD.out) Ad 1 cd ((Txs.one m).map byteV) rfl rfl HSD.out (oneCell_bytes _) (by unfold maxLen; omega) (by omega) (by omega) ?_; intro v9 w9 hrow9 hg9 hat9)
      have HG9 := Lib.hid (hgr.out.trans ((Grw.of_below HBD.out _).trans (Grw.of_app hg9 hat9)))
      have HO9 := Lib.hid (own_app hrow9 rfl rfl)
      have HK9 := Lib.hid (HG9.out.bk HK2.out (by simp [Value.ownBlock]))
      have r2' : w9.cell? ⟨w.heap.size, 2, none⟩ = some (.slice A' m c') := (HK9.out.1.cell 2).trans rfl
      obtain ⟨hd2, hhd2⟩ : ∃ hd2, hd2 = P ++ Txs.one m := ⟨_, rfl⟩
      rw [← hhd2] at HO9
      have hl2 : hd2.length ≤ 906 := by rw [hhd2, List.length_append]; show _ + 1 ≤ _; omega
      have HHD2 := Lib.hid hhd2
      clear hrow9 hg9 hat9 hhd2 r2 HOB HKR hgr
      go_wp2_with fail
      have HO2 := Lib.hid (show OutsAt w2 B A' t.outs from At.below HO.out ((HW.out.trans (HB2.out.mono (by rw [HZ.out]; omega))).mono hB))
      go_loopw [4, 64] (fun v i wr => ∃ k : Nat, k ≤ m ∧ i = .int .i64 (k : Int) ∧ Hid (OwnB wr w2.heap.size v (hd2 ++ Txs.outsB (t.outs.take k))) ∧ Hid (Grw w2 wr (.slice none 0 0) v)) (fun _ i _ => m - (intOf i).toNat)
      case atStart => exact ⟨0, Nat.zero_le _, rfl, Lib.hid (by simpa [Txs.outsB] using HO9.out), HG9⟩
      case round =>
        obtain ⟨j, hj, rfl, hob, hgr⟩ := hrel
        have HBL := Lib.hid (hgr.out.below (own_nil w2 w2.heap.size) (Nat.le_refl _) (Nat.le_refl _))
        by_cases hlt : j < m
        · have hlt2 : j < t.outs.length := by rw [← HM.out]; exact hlt
          obtain ⟨b, off, rfl, hbB, hr, hxok⟩ := OutsAt.range (At.below HO2.out (HBL.out.mono hB2)) hlt2
          have HR := Lib.hid hr
          have HXK := Lib.hid hxok
          have HSN := Lib.hid (outsB_snoc t.outs j hlt2)
          have hple : (hd2 ++ Txs.outsB (t.outs.take j)).length ≤ 1306 := by
            rw [List.length_append]
            have := flatMap_take_len Txs.outB t.outs j
            unfold Txs.outsB at ho400 ⊢
            omega
          clear hr hxok
          generalize t.outs[j] = x at *
          obtain ⟨P2, hP2⟩ : ∃ P2, P2 = hd2 ++ Txs.outsB (t.outs.take j) := ⟨_, rfl⟩
          rw [← hP2] at hob hple
          have HP2 := Lib.hid hP2
          have hxv := HXK.out.1
          have HXV := Lib.hid hxv
          have hxh := Lib.hid HXK.out.2
          have hne := (hob.out.lt : ∀ g, _ = some g → _)
          have HOWN := Lib.hid (own_below hob.out (Joins.below_alloc1 _ (.cells (outCells x).toArray 94)))
          have HBX := Lib.hid (fun (W : World) => (show Bk (W.alloc (.cells (outCells x).toArray 94)) W.heap.size 94 (outCells x).toArray from Bk.new _ _ _))
          have HLN := Lib.hid (outCells_len HXK.out)
          have HONE := Lib.hid (outCells_one x)
          have HXB := Lib.hid (oneCell_bytes x.lock)
          have hws := hgr.out.kp.size
          obtain ⟨cs, hcs⟩ : ∃ cs, cs = outCells x := ⟨_, rfl⟩
          rw [← hcs] at HR HLN HONE HBX HOWN
          have HCS := Lib.hid hcs
          have HZO := zero_out
          have HZL := Lib.hid zeroOut_len
          generalize (outCells ⟨0, List.replicate 32 0⟩).toArray = zs at *
          have HZZ := Lib.hid HZO
          clear hP2 hcs HZO hxv
          go_wp2_with (first
            | (refine wpList_elem rfl rfl rfl 94 (.tmp 66) (.tmp 8) (.tmp 67) rfl rfl rfl b (off + j * 33) (by rfl) cs _ HR.out Tryd.underlying94 rfl (by rw [HLN.out]; exact size_out) zs HZZ.out (by rw [HZL.out, HLN.out]) HONE.out (by rfl) (by rfl) ?_; have HBX2 := Lib.hid (HBX.out wr); have c0 : (wr.alloc (.cells cs.toArray 94)).cell? ⟨wr.heap.size, 0, none⟩ = some (.int .u64 (x.value : Int)) := (by rw [HCS.out]; exact out_value (Bk.new _ _ _))))
          have hv8 : x.value < 256 ^ 8 := by have := HXV.out; unfold U64 at this; omega
          refine (rnum_at x.value 8 HXV.out (by omega) hv8 _).mono ?_
          rintro e wb ⟨Ab, cb, rfl, hsb, hbb⟩
          have hzb := hbb.size
          have HSB := Lib.hid hsb
          have HBB := Lib.hid hbb
          have HOB5 := Lib.hid (own_below HOWN.out hbb)
          have HLB : Hid (((Oct.le x.value 8).map byteV).length = 8 * 1) := Lib.hid (by rw [List.length_map, Oct.le_length])
          have hzx : wr.heap.size + 1 ≤ wb.heap.size := by simpa using hzb
          clear hsb hbb hzb hv8
          go_upto_region 18 with (at_builtin; refine wpList_app _ rfl (.tmp 68) (.tmp 71) _ rfl w2.heap.size 5 i0 _ 1 1 Tryd.underlying89 Hi.out Hz.out Hz1.out Hz2.out rfl (by decide) u4 P2.length (P2.map byteV) rfl HOB5.out Ab 8 cb ((Oct.le x.value 8).map byteV) rfl HLB.out HSB.out (oneCell_bytes _) (by unfold maxLen; omega) (by omega) (by omega) ?_; intro v10 w10 hrow10 hg10' hat10)
          have hg10 : Grw (wr.alloc (.cells cs.toArray 94)) w10 u4 v10 := (Grw.of_below HBB.out _).trans (Grw.of_app hg10' hat10)
          have HNE := Lib.hid (show u4.ownBlock ≠ some wr.heap.size from fun e => by have := (hne _ e).2; omega)
          have HO10 := Lib.hid (own_app hrow10 rfl (Oct.le_length x.value 8).symm)
          have HX10 := Lib.hid (hg10.bk HBX2.out HNE.out)
          have HG10 := Lib.hid ((Grw.of_below (Joins.below_alloc1 _ _) _).trans hg10)
          have HS10 := Lib.hid (show Src w10 (some ⟨wr.heap.size, 1, none⟩) (x.lock.map byteV) from Src.bk HX10.out.1 1 _ (by rw [HCS.out]; exact out_lock HXK.out))
          have HP10 := Lib.hid (show (P2 ++ Oct.le x.value 8).length = P2.length + 8 by rw [List.length_append, Oct.le_length])
          have hs10 := HG10.out.kp.size
          clear hg10 hg10' hat10 hrow10 c0 hne HOWN HSB HBB HOB5 HLB
          go_wp2_with (at_builtin; refine wpList_app _ rfl (.tmp 73) (.tmp 75) _ rfl w2.heap.size 5 i0 _ 1 1 Tryd.underlying89 Hi.out Hz.out Hz1.out Hz2.out rfl (by decide) v10 (P2 ++ Oct.le x.value 8).length ((P2 ++ Oct.le x.value 8).map byteV) rfl HO10.out (some ⟨wr.heap.size, 1, none⟩) 32 32 (x.lock.map byteV) rfl (by rw [List.length_map, hxh.out]) HS10.out HXB.out (by rw [HP10.out]; unfold maxLen; omega) (by rw [HP10.out]; omega) (by omega) ?_; intro v11 w11 hrow11 hg11 hat11)
          go_roundw
          case rel =>
            refine ⟨j + 1, by omega, by go_num, Lib.hid ?_, Lib.hid ((hgr.out.trans HG10.out).trans (Grw.of_app hg11 hat11))⟩
            have := own_app hrow11 rfl hxh.out.symm
            rw [HSN.out, ← List.append_assoc, ← HP2.out]
            unfold Txs.outB
            simpa only [List.append_assoc] using this
          case measure => simp [intOf]; omega
        · have HTK := Lib.hid (show t.outs.take j = t.outs from List.take_of_length_le (by rw [show j = m by omega, HM.out]; exact Nat.le_refl _))
          have hob' := hob.out
          rw [HTK.out, HHD2.out, HPP.out, HHD.out] at hob'
          have HOB := Lib.hid hob'
          have HEND := Lib.hid (HW.out.trans ((HB2.out.trans (HBL.out.mono HB2.out.size)).mono (by rw [HZ.out]; omega)))
          clear hob' hob HTK
          go_wp2_with fail
          refine bodyPost_ret (results_tmp2 rfl _ _ _) rfl ?_
          exact ⟨u4, rfl, by rw [HBY.out]; exact own_mono HOB.out (by omega), HEND.out⟩
end Go.Proofs.YtacbibflhdmcoaaDoor.T7
