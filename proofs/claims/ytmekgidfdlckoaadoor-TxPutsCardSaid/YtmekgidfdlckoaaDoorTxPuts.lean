/- TxPuts: the walk. -/
import Derived.Test.YtmekgidfdlckoaaDoorTxIds
import Derived.Test.YtmekgidfdlckoaaDoorTxSameCoins
import Derived.Test.YtmekgidfdlckoaaDoorHeldTx
namespace Go.Proofs.YtmekgidfdlckoaaDoor
open Go.RowKit Go.Deep T7
set_option linter.unusedVariables false
set_option linter.unusedSimpArgs false
set_option maxRecDepth 100000
attribute [local go_sem ↓] Go.wp_at_zero Go.wp_at_succ

def T7.Txs.putB (t : Txs.Tx) : List UInt8 := if Txs.form t = true then Txs.bytes t else []
def T7.Txs.coinsOf (t : Txs.Tx) : List (Txs.Out × Nat) := if Txs.form t = true then t.outs.zipIdx else []
def PutOut (t : Txs.Tx) (w : World) (e : Ending) (w' : World) : Prop := ∃ A c, e = .returned (.tuple #[.slice A (T7.Txs.putB t).length c, .int .i64 (T7.Txs.idErr t)]) ∧ (T7.Txs.putB t).length ≤ c ∧ c ≤ maxLen ∧ BytesAt w' w'.heap.size A (T7.Txs.putB t) ∧ Below w.heap.size w w'
theorem put_out {t : Txs.Tx} {w : World} {f : Nat} {args : Array Value} (hn : Txs.form t = false → Calls Tryd.prog f args w fun e w' => e = .returned (.tuple #[.slice none 0 0, .int .i64 5]) ∧ Below w.heap.size w w')
    (hy : Txs.form t = true → Calls Tryd.prog f args w fun e w' => ∃ v, e = .returned (.tuple #[v, .int .i64 0]) ∧ OwnB w' w.heap.size v (Txs.bytes t) ∧ Below w.heap.size w w') : Calls Tryd.prog f args w (PutOut t w) := by
  by_cases hf : Txs.form t = true
  · have e1 : T7.Txs.putB t = Txs.bytes t := by unfold T7.Txs.putB; rw [if_pos hf]
    have e2 : T7.Txs.idErr t = 0 := by unfold T7.Txs.idErr; rw [if_pos hf]
    refine (hy hf).mono ?_
    rintro e w' ⟨v, rfl, ho, hb⟩
    obtain ⟨A, c, rfl, hc, hm, hat, _⟩ := ho.at_
    unfold PutOut
    rw [e1, e2]
    exact ⟨A, c, rfl, hc, hm, hat, hb⟩
  · have e1 : T7.Txs.putB t = [] := by unfold T7.Txs.putB; rw [if_neg hf]
    have e2 : T7.Txs.idErr t = 5 := by unfold T7.Txs.idErr; rw [if_neg hf]
    refine (hn (by simpa using hf)).mono ?_
    rintro e w' ⟨rfl, hb⟩
    unfold PutOut
    rw [e1, e2]
    exact ⟨none, 0, rfl, Nat.le_refl _, by simp [maxLen], At.nil _ _ _, hb⟩
def CoinsOut (t : Txs.Tx) (w : World) (e : Ending) (w' : World) : Prop := ∃ A c, e = .returned (.tuple #[.slice A (T7.Txs.coinsOf t).length c, .int .i64 (T7.Txs.idErr t)]) ∧ CoinsAt w' w'.heap.size A (T7.Txs.id t) (T7.Txs.coinsOf t) ∧ Below w.heap.size w w'
theorem coins_out {t : Txs.Tx} {w : World} {f : Nat} {args : Array Value} (hn : Txs.form t = false → Calls Tryd.prog f args w fun e w' => e = .returned (.tuple #[.slice none 0 0, .int .i64 5]) ∧ Below w.heap.size w w')
    (hy : Txs.form t = true → Calls Tryd.prog f args w fun e w' => ∃ A1 c1, e = .returned (.tuple #[.slice A1 t.outs.length c1, .int .i64 0]) ∧ t.outs.length ≤ c1 ∧ c1 ≤ maxLen ∧ CoinsAt w' w'.heap.size A1 (T7.Txs.id t) t.outs.zipIdx ∧ Below w.heap.size w w') : Calls Tryd.prog f args w (CoinsOut t w) := by
  by_cases hf : Txs.form t = true
  · have e1 : T7.Txs.coinsOf t = t.outs.zipIdx := by unfold T7.Txs.coinsOf; rw [if_pos hf]
    have e2 : T7.Txs.idErr t = 0 := by unfold T7.Txs.idErr; rw [if_pos hf]
    refine (hy hf).mono ?_
    rintro e w' ⟨A, c, rfl, _, _, hat, hb⟩
    unfold CoinsOut
    rw [e1, e2, List.length_zipIdx]
    exact ⟨A, c, rfl, hat, hb⟩
  · have e1 : T7.Txs.coinsOf t = [] := by unfold T7.Txs.coinsOf; rw [if_neg hf]
    have e2 : T7.Txs.idErr t = 5 := by unfold T7.Txs.idErr; rw [if_neg hf]
    refine (hn (by simpa using hf)).mono ?_
    rintro e w' ⟨rfl, hb⟩
    unfold CoinsOut
    rw [e1, e2]
    exact ⟨none, 0, rfl, At.nil _ _ _, hb⟩
theorem size_out9 (t : Txs.Tx) (A A' : Option Addr) (c c' B : Nat) (w : World) (h : TxAt w B t A c A' c') (hB : B ≤ w.heap.size) :
    Calls Tryd.prog 12 #[txV t A c A' c'] w fun e w' => e = .returned (.tuple #[.int .i64 ((T7.Txs.putB t).length : Int), .int .i64 (T7.Txs.idErr t)]) ∧ Below w.heap.size w w' := by
  by_cases hf : Txs.form t = true
  · rw [show T7.Txs.putB t = Txs.bytes t by unfold T7.Txs.putB; rw [if_pos hf], show T7.Txs.idErr t = 0 by unfold T7.Txs.idErr; rw [if_pos hf]]
    exact size_yes t A A' c c' B w h hB hf
  · rw [show T7.Txs.putB t = [] by unfold T7.Txs.putB; rw [if_neg hf], show T7.Txs.idErr t = 5 by unfold T7.Txs.idErr; rw [if_neg hf]]
    exact size_no t A A' c c' B w h hB (by simpa using hf)
set_option maxHeartbeats 4000000 in
theorem txPuts_walk (w : World) (hlay : Laid w) (t : Txs.Tx) (A : Option Addr) (c : Nat) (A' : Option Addr) (c' : Nat) (h : TxAt w w.heap.size t A c A' c') :
    Calls Tryd.prog 4 #[txV t A c A' c'] w fun e w' => e = .returned (.bool true) ∧ Below w.heap.size w w' := by
  obtain ⟨w1, hw1, hb1, hz1, hk1⟩ := tx_box9 w t A A' c c'
  have HB1 := Lib.hid hb1
  have HZ1 := Lib.hid hz1
  have HK1 := Lib.hid hk1
  have HT := Lib.hid h
  have HL := Lib.hid hlay
  have HPA : Hid (∀ W, Below w.heap.size w W → Calls Tryd.prog 7 #[txV t A c A' c'] W (PutOut t W)) := Lib.hid fun W hb => put_out (fun hf => put_no t A A' c c' _ W (h.below hb) hb.size hf) (fun hf => put_yes t A A' c c' _ W (h.below hb) hb.size hf)
  have HPR : Hid (∀ W, Below w.heap.size w W → Calls Tryd.prog 11 #[txV t A c A' c'] W (PutOut t W)) := Lib.hid fun W hb => put_out (fun hf => rput7_no t A A' c c' _ W (h.below hb) hb.size hf) (fun hf => rput7_yes t A A' c c' _ W (h.below hb) hb.size hf)
  have HCA : Hid (∀ W, Below w.heap.size w W → Calls Tryd.prog 9 #[txV t A c A' c'] W (CoinsOut t W)) := Lib.hid fun W hb => coins_out (fun hf => coins_no t A A' c c' _ W (hlay.below hb) (h.below hb) hb.size hf) (fun hf => coins_yes t A A' c c' _ W (hlay.below hb) (h.below hb) hb.size hf)
  have HCR : Hid (∀ W, Below w.heap.size w W → Calls Tryd.prog 14 #[txV t A c A' c'] W (CoinsOut t W)) := Lib.hid fun W hb => coins_out (fun hf => rcoins_no t A A' c c' _ W (hlay.below hb) (h.below hb) hb.size hf) (fun hf => rcoins_yes t A A' c c' _ W (hlay.below hb) (h.below hb) hb.size hf)
  have HSZ := Lib.hid (fun W (hb : Below w.heap.size w W) => size_out9 t A A' c c' w.heap.size W (h.below hb) hb.size)
  have HIA := fun W (hb : Below w.heap.size w W) => id_any t A A' c c' w.heap.size W (hlay.below hb) (h.below hb) hb.size
  have HIR := fun W (hb : Below w.heap.size w W) => rid_any t A A' c c' w.heap.size W (hlay.below hb) (h.below hb) hb.size
  have hil := id_len t
  have hput : (T7.Txs.putB t).length ≤ 2000 := by
    unfold T7.Txs.putB
    by_cases hf : Txs.form t = true
    · rw [if_pos hf]; exact Txs.bytes_small h.ok hf
    · rw [if_neg hf]; simp
  have hcol : (T7.Txs.coinsOf t).length ≤ 1000 := by
    unfold T7.Txs.coinsOf
    by_cases hf : Txs.form t = true
    · rw [if_pos hf, List.length_zipIdx]; have := (Txs.form_iff.1 hf).2.2; omega
    · rw [if_neg hf]; simp
  obtain ⟨ia, hia⟩ : ∃ ia, ia = bytesArr (T7.Txs.id t) := ⟨_, rfl⟩
  rw [← hia] at HIA HIR
  have HIZ := Lib.hid (show ia.size = 32 by rw [hia]; simp [bytesArr, hil])
  have HI1 := Lib.hid (show ia.all (·.oneCell') = true by rw [hia]; simp [bytesArr, Value.oneCell', byteV])
  have HEQ := Lib.hid (show ∀ W, (binOp .eql 34 (.agg ia) (.agg ia)).run Tryd.prog W = .ok (.bool true) W from fun W => by
    rw [hia]
    have := run_eq_hash W (T7.Txs.id t) (T7.Txs.id t) hil hil
    rw [decide_eq_true rfl] at this
    exact this)
  obtain ⟨zs, hzs⟩ : ∃ zs, zs = bytesArr (List.replicate 32 (0 : UInt8)) := ⟨_, rfl⟩
  have HZ := Lib.hid (show (Tryd.prog.info? 34).map (·.zero) = some (some (.agg zs)) by rw [hzs]; exact zero_hash7)
  have HZL := Lib.hid (show zs.size = 32 by rw [hzs]; simp [bytesArr])
  have HIL := Lib.hid hil
  unfold PutOut CoinsOut txV at *
  generalize T7.Txs.putB t = B at *
  generalize T7.Txs.coinsOf t = L at *
  generalize T7.Txs.idErr t = er at *
  have HIAH := Lib.hid HIA
  have HIRH := Lib.hid HIR
  clear hb1 hz1 hk1 h hlay HIA HIR hil hia hzs
  go_enter Tryd.func4, Tryd.ntmps4
  go_wp2_with fail
  rw [← hw1]
  clear hw1
  refine (tx_alive w1).mono ?_
  rintro e w2 ⟨rfl, hb2⟩
  have HB2 := Lib.hid (HB1.out.trans (hb2.mono HB1.out.size))
  have HK2 := Lib.hid (HK1.out.below hb2 (by rw [HZ1.out]; omega))
  have hz2 : w.heap.size + 1 ≤ w2.heap.size := by rw [← HZ1.out]; exact hb2.size
  clear hb2
  have hgr := great_any t A A' c c' w.heap.size w2 (HT.out.below HB2.out) HB2.out.size
  unfold txV at hgr
  have hg100 : greatB t = false → t.ins.length ≤ 100 := fun hg => by
    unfold greatB at hg
    simp only [Bool.or_eq_false_iff, decide_eq_false_iff_not] at hg
    omega
  generalize greatB t = gb at *
  have HG := Lib.hid hgr
  have HG100 := Lib.hid hg100
  clear hgr hg100
  obtain ⟨k0, k1, k2⟩ := tx_cells9 HK2.out
  go_wp2_with fail
  refine HG.out.mono ?_
  rintro e w3 ⟨rfl, hb3⟩
  have HB3 := Lib.hid (HB2.out.trans (hb3.mono HB2.out.size))
  have HK3 := Lib.hid (HK2.out.below hb3 (by omega))
  have hz3 := hb3.size
  clear hb3 k0 k1 k2 HG HB1 HK1 HB2 HK2
  cases gb with
  | true =>
    go_wp2_with fail
    go_ret
    exact ⟨rfl, HB3.out⟩
  | false =>
  have hn100 := HG100.out rfl
  clear HG100
  obtain ⟨k0, k1, k2⟩ := tx_cells9 HK3.out
  go_wp2_with fail
  refine (HPA.out w3 HB3.out).mono ?_
  rintro e w4 ⟨Aa, ca, rfl, hca, hma, hata, hb4⟩
  have HB4 := Lib.hid (HB3.out.trans (hb4.mono HB3.out.size))
  have HK4 := Lib.hid (HK3.out.below hb4 (by omega))
  have hz4 := hb4.size
  have HAA4 := Lib.hid hata
  clear hata
  clear hb4 k0 k1 k2
  obtain ⟨k0, k1, k2⟩ := tx_cells9 HK4.out
  go_wp2_with fail
  refine (HPR.out w4 HB4.out).mono ?_
  rintro e w5 ⟨Ab, cb, rfl, hcb, hmb, hatb, hb5⟩
  have HB5 := Lib.hid (HB4.out.trans (hb5.mono HB4.out.size))
  have HK5 := Lib.hid (HK4.out.below hb5 (by omega))
  have hz5 := hb5.size
  have HAA5 := Lib.hid (At.below HAA4.out (hb5.mono (by omega)))
  have HAB5 := Lib.hid hatb
  clear hatb
  clear hb5 k0 k1 k2
  obtain ⟨k0, k1, k2⟩ := tx_cells9 HK5.out
  go_wp2_with fail
  refine (HSZ.out w5 HB5.out).mono ?_
  rintro e w6 ⟨rfl, hb6⟩
  have HB6 := Lib.hid (HB5.out.trans (hb6.mono HB5.out.size))
  have HK6 := Lib.hid (HK5.out.below hb6 (by omega))
  have hz6 := hb6.size
  have HAA6 := Lib.hid (At.below HAA5.out (hb6.mono (by omega)))
  have HAB6 := Lib.hid (At.below HAB5.out (hb6.mono (by omega)))
  clear hb6 k0 k1 k2
  obtain ⟨k0, k1, k2⟩ := tx_cells9 HK6.out
  go_wp2_with fail
  refine (HIAH.out w6 HB6.out).mono ?_
  rintro e w7 ⟨rfl, hb7⟩
  have HB7 := Lib.hid (HB6.out.trans (hb7.mono HB6.out.size))
  have HK7 := Lib.hid (HK6.out.below hb7 (by omega))
  have hz7 := hb7.size
  have HAA7 := Lib.hid (At.below HAA6.out (hb7.mono (by omega)))
  have HAB7 := Lib.hid (At.below HAB6.out (hb7.mono (by omega)))
  clear hb7 k0 k1 k2
  go_upto_region 9 with (first
    | (refine wpList_allocOf rfl 34 rfl zs HZ.out ?_)
    | (refine wpList_store_row rfl 34 (.tmp 9) (.tmp 42) rfl w7.heap.size ia (by rfl) (by rfl) 34 zs ?hg (by rw [HIZ.out]; exact size_hash) (by rw [HIZ.out]; exact HZL.out) HI1.out ?_))
  case hg => exact Bk.new _ _ _
  obtain ⟨w8, hw8⟩ : ∃ w8, w8 = (w7.alloc (.cells zs 34)).setRow w7.heap.size ia := ⟨_, rfl⟩
  have HH8 := Lib.hid (show Bk w8 w7.heap.size 34 ia by rw [hw8]; exact setRow_heap _ _ _ _ _ _ (Bk.new w7 _ zs))
  have hb8 : Below w7.heap.size w7 w8 := by rw [hw8]; exact below_setRow ((Below.refl _ _).alloc (Nat.le_refl _) _) (Nat.le_refl _) _
  have HB8 := Lib.hid (HB7.out.trans (hb8.mono HB7.out.size))
  have HK8 := Lib.hid (HK7.out.below hb8 (by omega))
  have hz8 := hb8.size
  have HAA8 := Lib.hid (At.below HAA7.out (hb8.mono (by omega)))
  have HAB8 := Lib.hid (At.below HAB7.out (hb8.mono (by omega)))
  rw [← hw8]
  clear hw8 hb8
  obtain ⟨H1, hH1⟩ : ∃ H, H = w7.heap.size := ⟨_, rfl⟩
  rw [← hH1] at HH8 ⊢
  have lH1 : H1 < w8.heap.size := HH8.out.lt
  clear hH1
  obtain ⟨k0, k1, k2⟩ := tx_cells9 HK8.out
  go_wp2_with fail
  refine (HIRH.out w8 HB8.out).mono ?_
  rintro e w9 ⟨rfl, hb9⟩
  have HB9 := Lib.hid (HB8.out.trans (hb9.mono HB8.out.size))
  have HK9 := Lib.hid (HK8.out.below hb9 (by omega))
  have hz9 := hb9.size
  have HAA9 := Lib.hid (At.below HAA8.out (hb9.mono (by omega)))
  have HAB9 := Lib.hid (At.below HAB8.out (hb9.mono (by omega)))
  have HH9 := Lib.hid (HH8.out.below hb9 (by omega))
  clear hb9 k0 k1 k2
  go_upto_region 10 with (first
    | (refine wpList_allocOf rfl 34 rfl zs HZ.out ?_)
    | (refine wpList_store_row rfl 34 (.tmp 11) (.tmp 47) rfl w9.heap.size ia (by rfl) (by rfl) 34 zs ?hg (by rw [HIZ.out]; exact size_hash) (by rw [HIZ.out]; exact HZL.out) HI1.out ?_))
  case hg => exact Bk.new _ _ _
  obtain ⟨w10, hw10⟩ : ∃ w10, w10 = (w9.alloc (.cells zs 34)).setRow w9.heap.size ia := ⟨_, rfl⟩
  have HG10 := Lib.hid (show Bk w10 w9.heap.size 34 ia by rw [hw10]; exact setRow_heap _ _ _ _ _ _ (Bk.new w9 _ zs))
  have hb10 : Below w9.heap.size w9 w10 := by rw [hw10]; exact below_setRow ((Below.refl _ _).alloc (Nat.le_refl _) _) (Nat.le_refl _) _
  have HB10 := Lib.hid (HB9.out.trans (hb10.mono HB9.out.size))
  have HK10 := Lib.hid (HK9.out.below hb10 (by omega))
  have hz10 := hb10.size
  have HAA10 := Lib.hid (At.below HAA9.out (hb10.mono (by omega)))
  have HAB10 := Lib.hid (At.below HAB9.out (hb10.mono (by omega)))
  have HH10 := Lib.hid (HH9.out.below hb10 (by omega))
  rw [← hw10]
  clear hw10 hb10
  obtain ⟨H2, hH2⟩ : ∃ H, H = w9.heap.size := ⟨_, rfl⟩
  rw [← hH2] at HG10 ⊢
  have lH2 : H2 < w10.heap.size := HG10.out.lt
  clear hH2
  obtain ⟨k0, k1, k2⟩ := tx_cells9 HK10.out
  go_wp2_with fail
  refine (HCA.out w10 HB10.out).mono ?_
  rintro e w11 ⟨Ac, cc, rfl, hatc, hb11⟩
  have HB11 := Lib.hid (HB10.out.trans (hb11.mono HB10.out.size))
  have HK11 := Lib.hid (HK10.out.below hb11 (by omega))
  have hz11 := hb11.size
  have HAA11 := Lib.hid (At.below HAA10.out (hb11.mono (by omega)))
  have HAB11 := Lib.hid (At.below HAB10.out (hb11.mono (by omega)))
  have HH11 := Lib.hid (HH10.out.below hb11 (by omega))
  have HG11 := Lib.hid (HG10.out.below hb11 (by omega))
  have HCC11 := Lib.hid hatc
  clear hatc
  clear hb11 k0 k1 k2
  obtain ⟨k0, k1, k2⟩ := tx_cells9 HK11.out
  go_wp2_with fail
  refine (HCR.out w11 HB11.out).mono ?_
  rintro e w12 ⟨Ad, cd, rfl, hatd, hb12⟩
  have HB12 := Lib.hid (HB11.out.trans (hb12.mono HB11.out.size))
  have HK12 := Lib.hid (HK11.out.below hb12 (by omega))
  have hz12 := hb12.size
  have HAA12 := Lib.hid (At.below HAA11.out (hb12.mono (by omega)))
  have HAB12 := Lib.hid (At.below HAB11.out (hb12.mono (by omega)))
  have HCC12 := Lib.hid (At.below HCC11.out (hb12.mono (by omega)))
  have HH12 := Lib.hid (HH11.out.below hb12 (by omega))
  have HG12 := Lib.hid (HG11.out.below hb12 (by omega))
  have HCD12 := Lib.hid hatd
  clear hatd
  clear hb12 k0 k1 k2
  have HP1 := fun W (hb : Below w.heap.size w W) => points_any t A A' c c' w.heap.size W (HT.out.below hb) hb.size (by omega)
  have HP2 := fun W (hb : Below w.heap.size w W) => rpoints_any t A A' c c' w.heap.size W (HT.out.below hb) hb.size (by omega)
  unfold txV at HP1 HP2
  have HC1 : Hid (∀ W, Below w12.heap.size w12 W → _) := Lib.hid (fun W (hW : Below w12.heap.size w12 W) => HP1 W (HB12.out.trans (hW.mono HB12.out.size)))
  have HC2 : Hid (∀ W, Below w12.heap.size w12 W → _) := Lib.hid (fun W (hW : Below w12.heap.size w12 W) => HP2 W (HB12.out.trans (hW.mono HB12.out.size)))
  have HKT := Lib.hid (KT.of_bk (cs := [.int .u32 (t.version : Int), .slice A t.ins.length c, .slice A' t.outs.length c']) HK12.out (Below.refl _ w12))
  clear HP1 HP2 HPA HPR HSZ HIAH HIRH HCA HCR
  go_upto_region 12 with (fail)
  refine wp_region_held_drew (S := KT w12 w.heap.size [.int .u32 (t.version : Int), .slice A t.ins.length c, .slice A' t.outs.length c']) (by kernel_rfl) (HKT.out.drew) (fun hHeld => ?_)
  refine wpAnyH_take (i := 0) (v := .agg ([.int .u32 (t.version : Int), .slice A t.ins.length c, .slice A' t.outs.length c']).toArray) rfl (by kernel_rfl) (by kernel_rfl) (by kernel_rfl) (fun _ _ _ h => h) (yieldsIf_load_mid (by rfl) 26 (.tmp 1) rfl (w.heap.size) (0) (by rfl) ([.int .u32 (t.version : Int), .slice A t.ins.length c, .slice A' t.outs.length c']) _ (fun _ h => h.rng) Tryd.underlying26 rfl (size_tx)) hHeld ?_
  simp only [Act.put, List.setIfInBounds_toArray, List.set_cons_zero, List.set_cons_succ, List.getElem_toArray, List.getElem_cons_zero, List.getElem_cons_succ]
  refine wpAnyH_take (i := 2) (v := .agg ([.int .u32 (t.version : Int), .slice A t.ins.length c, .slice A' t.outs.length c']).toArray) rfl (by kernel_rfl) (by kernel_rfl) (by kernel_rfl) (fun _ _ _ h => h) (yieldsIf_load_mid (by rfl) 26 (.tmp 1) rfl (w.heap.size) (0) (by rfl) ([.int .u32 (t.version : Int), .slice A t.ins.length c, .slice A' t.outs.length c']) _ (fun _ h => h.rng) Tryd.underlying26 rfl (size_tx)) hHeld ?_
  simp only [Act.put, List.setIfInBounds_toArray, List.set_cons_zero, List.set_cons_succ, List.getElem_toArray, List.getElem_cons_zero, List.getElem_cons_succ]
  refine wpAnyH_ready (rs := [1]) (by kernel_rfl) (by simp) ?_
  refine (AllReadyH.cons rfl (fun K hK => ?_) AllReadyH.nil)
  go_simp
  refine (HC1.out _ hHeld.bel).mono ?_
  rintro e w13 ⟨Ap, cp, rfl, hcp, hmp, hatp, hb13⟩
  go_wp2_with fail
  refine hK.out _ _ (hHeld.keep hb13) (fun hHeld => ?_)
  clear hK K
  try simp only [Act.put, List.setIfInBounds_toArray, List.set_cons_zero, List.set_cons_succ, List.getElem_toArray, List.getElem_cons_zero, List.getElem_cons_succ]
  refine wpAnyH_ready (rs := [3]) (by kernel_rfl) (by simp) ?_
  refine (AllReadyH.cons rfl (fun K hK => ?_) AllReadyH.nil)
  go_simp
  refine (HC2.out _ hHeld.bel).mono ?_
  rintro e w14 ⟨Aq, cq, rfl, hcq, hmq, hatq, hb14⟩
  go_wp2_with fail
  refine hK.out _ _ (hHeld.keep hb14) (fun hHeld => ?_)
  clear hK K
  try simp only [Act.put, List.setIfInBounds_toArray, List.set_cons_zero, List.set_cons_succ, List.getElem_toArray, List.getElem_cons_zero, List.getElem_cons_succ]
  refine wpAnyH_take (i := 4) (v := ?_) rfl (by kernel_rfl) (by kernel_rfl) (by kernel_rfl) (fun _ _ _ h => h) (Or.inl ⟨by rfl, ?_⟩) hHeld ?_
  rotate_left
  · (intro w hSw; go_simp <;> with_reducible rfl)
  simp only [Act.put, List.setIfInBounds_toArray, List.set_cons_zero, List.set_cons_succ, List.getElem_toArray, List.getElem_cons_zero, List.getElem_cons_succ]
  refine wpAnyH_take (i := 5) (v := ?_) rfl (by kernel_rfl) (by kernel_rfl) (by kernel_rfl) (fun _ _ _ h => h) (Or.inl ⟨by rfl, ?_⟩) hHeld ?_
  rotate_left
  · (intro w hSw; go_simp <;> with_reducible rfl)
  simp only [Act.put, List.setIfInBounds_toArray, List.set_cons_zero, List.set_cons_succ, List.getElem_toArray, List.getElem_cons_zero, List.getElem_cons_succ]
  refine wpAnyH_done (by kernel_rfl) ?_ _
  have hb14' : Below w12.heap.size w12 w14 := hHeld.bel
  have hz14 := hb14'.size
  have HPP14 := Lib.hid (At.below hatp hb14)
  have HPQ14 := Lib.hid hatq
  have hz1314 := hb14.size
  have HB14 := Lib.hid (HB12.out.trans (hb14'.mono HB12.out.size))
  have HAA14 := Lib.hid (At.below HAA12.out (hb14'.mono (by omega)))
  have HAB14 := Lib.hid (At.below HAB12.out (hb14'.mono (by omega)))
  have HCC14 := Lib.hid (At.below HCC12.out (hb14'.mono (by omega)))
  have HCD14 := Lib.hid (At.below HCD12.out (hb14'.mono (by omega)))
  have HH14 := Lib.hid (HH12.out.below hb14' (by omega))
  have HG14 := Lib.hid (HG12.out.below hb14' (by omega))
  clear hb13 hb14 hb14' hatp hatq hHeld HKT HC1 HC2
  obtain ⟨n, hn⟩ : ∃ n, n = t.ins.length := ⟨_, rfl⟩
  rw [← hn] at hn100 ⊢
  have HN := Lib.hid hn
  clear hn
  go_wp2_with fail
  go_loopw [70] (fun iv wr => ∃ k : Nat, k ≤ n ∧ iv = .int .i64 (k : Int) ∧ Hid (Below w14.heap.size w14 wr)) (fun iv _ => n - (intOf iv).toNat)
  case atStart => exact ⟨0, Nat.zero_le _, rfl, Lib.hid (Below.refl _ _)⟩
  case round =>
    obtain ⟨k, hk, rfl, hbr⟩ := hrel
    have hzr := hbr.out.size
    by_cases hlt : k < n
    · have hlt1 : k < t.ins.length := by rw [← HN.out]; exact hlt
      obtain ⟨b, off, rfl, hbB, hr, hok⟩ := PtsAt.range (At.below HPP14.out (hbr.out.mono (by omega))) hlt1
      obtain ⟨b', off', rfl, hbB', hr', _⟩ := PtsAt.range (At.below HPQ14.out (hbr.out.mono (by omega))) hlt1
      have HNP := Lib.hid (show ∀ W, (binOp .neq 42 (.agg (ptCells t.ins[k]).toArray) (.agg (ptCells t.ins[k]).toArray)).run Tryd.prog W = .ok (.bool false) W from fun W => by
        have := run_ne_pt W ⟨t.ins[k].hash, t.ins[k].n, hok.1⟩ ⟨t.ins[k].hash, t.ins[k].n, hok.1⟩
        unfold Pt.ne at this
        simpa [Pt.arr, Pt.cells, ptCells] using this)
      have HCL := Lib.hid (ptCells_len hok)
      have i1 : (0 : Int) ≤ (k : Int) := by omega
      have i2 : (k : Int) < (n : Int) := by omega
      generalize ptCells t.ins[k] = cs at *
      have HRS := Lib.hid (show wr.drew.rangeAt b (off + k * 33) cs ∧ wr.drew.rangeAt b' (off' + k * 33) cs from ⟨fun j v hv => hr j v hv, fun j v hv => hr' j v hv⟩)
      have HBD := Lib.hid hbr.out.drew
      clear hr hr' hok
      go_upto_region 18 with (fail)
      have hnp := HNP.out
      have hi : (Tryd.prog.info? 42).map (·.size) = some cs.length := by rw [HCL.out]; exact size_pt
      refine wp_region_held_drew (S := fun w' => w'.rangeAt b (off + k * 33) cs ∧ w'.rangeAt b' (off' + k * 33) cs) (by kernel_rfl) (HRS.out) (fun hHeld => ?_)
      refine wpAnyH_take (i := 0) (v := ?_) rfl (by kernel_rfl) (by kernel_rfl) (by kernel_rfl) (fun _ _ _ h => h) (Or.inl ⟨by rfl, ?_⟩) hHeld ?_
      rotate_left
      · (intro w hSw; go_simp <;> with_reducible rfl)
      simp only [Act.put, List.setIfInBounds_toArray, List.set_cons_zero, List.set_cons_succ, List.getElem_toArray, List.getElem_cons_zero, List.getElem_cons_succ]
      refine wpAnyH_take (i := 1) (v := ?_) rfl (by kernel_rfl) (by kernel_rfl) (by kernel_rfl) (fun _ _ _ h => h) (Or.inl ⟨by rfl, ?_⟩) hHeld ?_
      rotate_left
      · (intro w hSw; go_simp <;> with_reducible rfl)
      simp only [Act.put, List.setIfInBounds_toArray, List.set_cons_zero, List.set_cons_succ, List.getElem_toArray, List.getElem_cons_zero, List.getElem_cons_succ]
      refine wpAnyH_take (i := 2) (v := ?_) rfl (by kernel_rfl) (by kernel_rfl) (by kernel_rfl) (fun _ _ _ h => h) (Or.inl ⟨by rfl, ?_⟩) hHeld ?_
      rotate_left
      · (intro w hSw; go_simp <;> with_reducible rfl)
      simp only [Act.put, List.setIfInBounds_toArray, List.set_cons_zero, List.set_cons_succ, List.getElem_toArray, List.getElem_cons_zero, List.getElem_cons_succ]
      refine wpAnyH_take (i := 3) (v := .agg (cs).toArray) rfl (by kernel_rfl) (by kernel_rfl) (by kernel_rfl) (fun _ _ _ h => h) (yieldsIf_load_mid (by rfl) 42 (.tmp 75) rfl (b) (off + k * 33) (by rfl) (cs) _ (fun _ h => h.1) Tryd.underlying42 rfl (hi)) hHeld ?_
      simp only [Act.put, List.setIfInBounds_toArray, List.set_cons_zero, List.set_cons_succ, List.getElem_toArray, List.getElem_cons_zero, List.getElem_cons_succ]
      refine wpAnyH_take (i := 4) (v := ?_) rfl (by kernel_rfl) (by kernel_rfl) (by kernel_rfl) (fun _ _ _ h => h) (Or.inl ⟨by rfl, ?_⟩) hHeld ?_
      rotate_left
      · (intro w hSw; go_simp <;> with_reducible rfl)
      simp only [Act.put, List.setIfInBounds_toArray, List.set_cons_zero, List.set_cons_succ, List.getElem_toArray, List.getElem_cons_zero, List.getElem_cons_succ]
      refine wpAnyH_take (i := 5) (v := ?_) rfl (by kernel_rfl) (by kernel_rfl) (by kernel_rfl) (fun _ _ _ h => h) (Or.inl ⟨by rfl, ?_⟩) hHeld ?_
      rotate_left
      · (intro w hSw; go_simp <;> with_reducible rfl)
      simp only [Act.put, List.setIfInBounds_toArray, List.set_cons_zero, List.set_cons_succ, List.getElem_toArray, List.getElem_cons_zero, List.getElem_cons_succ]
      refine wpAnyH_take (i := 6) (v := ?_) rfl (by kernel_rfl) (by kernel_rfl) (by kernel_rfl) (fun _ _ _ h => h) (Or.inl ⟨by rfl, ?_⟩) hHeld ?_
      rotate_left
      · (intro w hSw; go_simp <;> with_reducible rfl)
      simp only [Act.put, List.setIfInBounds_toArray, List.set_cons_zero, List.set_cons_succ, List.getElem_toArray, List.getElem_cons_zero, List.getElem_cons_succ]
      refine wpAnyH_take (i := 7) (v := .agg (cs).toArray) rfl (by kernel_rfl) (by kernel_rfl) (by kernel_rfl) (fun _ _ _ h => h) (yieldsIf_load_mid (by rfl) 42 (.tmp 79) rfl (b') (off' + k * 33) (by rfl) (cs) _ (fun _ h => h.2) Tryd.underlying42 rfl (hi)) hHeld ?_
      simp only [Act.put, List.setIfInBounds_toArray, List.set_cons_zero, List.set_cons_succ, List.getElem_toArray, List.getElem_cons_zero, List.getElem_cons_succ]
      refine wpAnyH_take (i := 8) (v := .bool false) rfl (by kernel_rfl) (by kernel_rfl) (by kernel_rfl) (fun _ _ _ h => h) (Or.inl ⟨by rfl, ?_⟩) hHeld ?_
      · intro w hSw; go_simp
      simp only [Act.put, List.setIfInBounds_toArray, List.set_cons_zero, List.set_cons_succ, List.getElem_toArray, List.getElem_cons_zero, List.getElem_cons_succ]
      refine wpAnyH_done (by kernel_rfl) ?_ _
      clear hnp hi hHeld
      go_wp2_with fail
      go_roundw
      case rel => exact ⟨k + 1, by omega, by go_num, HBD⟩
      case measure => simp [intOf]; omega
    · obtain rfl : k = n := by omega
      have hsm := same_any Aa Ab B.length B.length ca cb B B wr _ _ rfl rfl (by omega) (by omega) (At.below HAA14.out (hbr.out.mono (by omega))) (At.below HAB14.out (hbr.out.mono (by omega)))
      simp only [decide_true] at hsm
      have HSM := Lib.hid hsm
      clear hsm
      have HBE := Lib.hid (HB14.out.trans (hbr.out.mono (by omega)))
      have HHE := Lib.hid (HH14.out.below hbr.out (by omega))
      have HGE := Lib.hid (HG14.out.below hbr.out (by omega))
      have HSC := fun m => samecoins_any Ac Ad cc cd (T7.Txs.id t) HIL.out L (wr.drewN m) hcol ((At.below HCC14.out ((below_drewN hbr.out m).mono (by omega))).mono (by show _ ≤ wr.heap.size; omega)) ((At.below HCD14.out ((below_drewN hbr.out m).mono (by omega))).mono (by show _ ≤ wr.heap.size; omega))
      have HSCH := Lib.hid HSC
      clear HSC
      go_wp2_with fail
      refine HSM.out.mono ?_
      rintro e wz ⟨rfl, m, rfl⟩
      have HEQ' := HEQ.out
      have HHF := Lib.hid (HHE.out.drewN m)
      have HGF := Lib.hid (HGE.out.drewN m)
      go_wp2_with (first
        | (refine wpList_load_row_g (by rfl) 34 (.tmp 9) rfl H1 (by rfl) 34 ia (0, 0) _ HHF.out Tryd.underlying34 rfl (by rw [HIZ.out]; exact size_hash) ?_)
        | (refine wpList_load_row_g (by rfl) 34 (.tmp 11) rfl H2 (by rfl) 34 ia (0, 0) _ HGF.out Tryd.underlying34 rfl (by rw [HIZ.out]; exact size_hash) ?_))
      refine (HSCH.out m).mono ?_
      rintro e wq ⟨rfl, hbq⟩
      have HBQ := Lib.hid ((below_drewN HBE.out m).trans (hbq.mono (by show _ ≤ wr.heap.size; have := HBE.out.size; omega)))
      clear hbq HEQ'
      go_wp2_with fail
      go_ret
      exact ⟨by simp, HBQ.out⟩
end Go.Proofs.YtmekgidfdlckoaaDoor
