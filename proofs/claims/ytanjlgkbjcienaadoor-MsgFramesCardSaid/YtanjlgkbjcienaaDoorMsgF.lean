/- MsgF, merged: MsgAlive, MsgEq, MsgRSame, MsgFrame. -/
import Derived.Test.YtanjlgkbjcienaaDoorMsgGP
import Derived.Test.YtanjlgkbjcienaaDoorTxGuard
import Derived.BigRegion
import Derived.Test.YtanjlgkbjcienaaDoorFramePut
/- The law's own functions: what is looked at; the document's examples. -/
namespace Go.Proofs.YtanjlgkbjcienaaDoor.M8
open Go.RowKit Go.Deep T7
set_option linter.unusedVariables false
set_option linter.unusedSimpArgs false
set_option maxRecDepth 100000
attribute [local go_sem ↓] Go.wp_at_zero Go.wp_at_succ

/-- yes or no, and nothing that was there has changed -/
def YesNo (w w' : World) (e : Ending) : Prop := (∃ v : Bool, e = .returned (.bool v)) ∧ Below w.heap.size w w'
/-- .. and who says no has few ids -/
def GreatOut (m : Msgs.Msg) (w w' : World) (e : Ending) : Prop := (∃ v : Bool, e = .returned (.bool v) ∧ (v = false → m.ids.length ≤ 100)) ∧ Below w.heap.size w w'
/-- a message in a variable -/
theorem msg_box (w : World) (m : Msgs.Msg) (A A1 A2 : Option Addr) (c c1 c2 : Nat) : ∃ w1 ms, ms = #[.int .i64 m.kind, .int .u64 (m.n : Int), .int .u32 (m.code : Int), .slice A m.ids.length c, .int .u32 (m.tx.version : Int), .slice A1 m.tx.ins.length c1, .slice A2 m.tx.outs.length c2] ∧
    msgV m A c A1 c1 A2 c2 = .agg ms ∧ ms.size = 7 ∧ w1 = w.alloc (.cells ms 30) ∧ Below w.heap.size w w1 ∧ w1.heap.size = w.heap.size + 1 ∧ Bk w1 w.heap.size 30 ms :=
  ⟨_, _, rfl, rfl, rfl, rfl, Joins.below_alloc1 _ _, by simp, Bk.new _ _ _⟩
set_option maxHeartbeats 2000000 in
theorem great_any2 (m : Msgs.Msg) (A A1 A2 : Option Addr) (c c1 c2 B : Nat) (w : World) (h : MsgAt w B m A c A1 c1 A2 c2) (hB : B ≤ w.heap.size) :
    Calls Tryd.prog 7 #[msgV m A c A1 c1 A2 c2] w fun e w' => GreatOut m w w' e := by
  have hmk := Nat.le_trans h.ic h.im
  have hmi := Nat.le_trans h.tx.ic h.tx.im
  have hmo := Nat.le_trans h.tx.oc h.tx.om
  unfold maxLen at hmk hmi hmo
  have HI := Lib.hid h.tx.ins
  obtain ⟨w1, ms, hms, hv, _, hw1, hW, hZ, hK⟩ := msg_box w m A A1 A2 c c1 c2
  unfold msgV
  rw [hms] at hw1
  have HMS := Lib.hid hms
  have HW := Lib.hid hW
  have HZ := Lib.hid hZ
  have HK := Lib.hid hK
  have HI1 := Lib.hid (show InsAt w1 B A1 m.tx.ins from HI.out.below (HW.out.mono hB))
  have k5 : w1.cell? ⟨w.heap.size, 5, none⟩ = some (.slice A1 m.tx.ins.length c1) := by rw [HK.out.cell, HMS.out]; rfl
  clear hms hv hW hZ hK h
  generalize m.kind = k at *
  generalize (m.n : Int) = mn at *
  generalize (m.code : Int) = mc at *
  have HGO := Lib.hid (fun (v : Bool) (hv : v = false → m.ids.length ≤ 100) (x : World) (hb : Below w.heap.size w x) => (show GreatOut m w x (.returned (.bool v)) from ⟨⟨v, rfl, hv⟩, hb⟩))
  obtain ⟨ni, hni⟩ : ∃ ni, ni = m.ids.length := ⟨_, rfl⟩
  rw [← hni] at hw1 hmk HGO HMS ⊢
  clear hni
  generalize (m.tx.version : Int) = ver at *
  obtain ⟨ins, hins⟩ : ∃ ins, ins = m.tx.ins := ⟨_, rfl⟩
  rw [← hins] at HI1 k5 hw1 hmi ⊢
  generalize m.tx.outs.length = no at *
  clear hins HI HMS
  have BAD : ∀ x, x = w1 → GreatOut m w x (.returned (.bool true)) := fun x hx => ⟨⟨true, rfl, fun h => by cases h⟩, by rw [hx]; exact HW.out⟩
  have HBAD := Lib.hid BAD
  clear BAD
  by_cases h0 : 100 < ni
  · have h0' : (100 : Int) < (ni : Int) := by omega
    go_enter Tryd.func7, Tryd.ntmps7
    go_wp2_with fail
    go_ret
    exact HBAD.out _ hw1.symm
  have h0' : ¬ (100 : Int) < (ni : Int) := by omega
  by_cases h1 : 100 < ins.length
  · have h1' : (100 : Int) < (ins.length : Int) := by omega
    go_enter Tryd.func7, Tryd.ntmps7
    go_wp2_with fail
    go_ret
    exact HBAD.out _ hw1.symm
  have h1' : ¬ (100 : Int) < (ins.length : Int) := by omega
  by_cases h2 : 100 < no
  · have h2' : (100 : Int) < (no : Int) := by omega
    go_enter Tryd.func7, Tryd.ntmps7
    go_wp2_with fail
    go_ret
    exact HBAD.out _ hw1.symm
  have h2' : ¬ (100 : Int) < (no : Int) := by omega
  clear h0 h1 h2 HBAD
  go_enter Tryd.func7, Tryd.ntmps7
  go_wp2_with fail
  rw [← hw1]
  clear hw1
  go_loopw [27] (fun i wr => ∃ k : Nat, k ≤ ins.length ∧ i = .int .i64 (k : Int) ∧ Hid (Below w1.heap.size w1 wr)) (fun i _ => ins.length - (intOf i).toNat)
  case atStart => exact ⟨0, Nat.zero_le _, rfl, Lib.hid (Below.refl _ _)⟩
  case round =>
    obtain ⟨k, hk, rfl, hb⟩ := hrel
    by_cases hlt : k < ins.length
    · obtain ⟨b, off, Ak, ck, rfl, _, hr, hok, hkc, hkm, _⟩ := (HI1.out.below (hb.out.mono (by rw [HZ.out]; omega))).range hlt
      have HR := Lib.hid hr
      have HOK := Lib.hid hok
      clear hr hok
      generalize ins[k] = x at *
      have HL := Lib.hid (inCells_len HOK.out (.slice Ak x.key.length ck))
      have HKY := Lib.hid (in_key (Bk.new _ 53 (inCells x (.slice Ak x.key.length ck)).toArray : Bk (wr.alloc (.cells (inCells x (.slice Ak x.key.length ck)).toArray 53)) wr.heap.size _ _) HOK.out)
      have HONE := Lib.hid (inCells_one x Ak x.key.length ck)
      have hkl : x.key.length ≤ 9223372036854775807 := by unfold maxLen at hkm; omega
      obtain ⟨ky, hky⟩ : ∃ ky, ky = x.key.length := ⟨_, rfl⟩
      rw [← hky] at HR HL HKY HONE hkl hkc
      generalize hcs : inCells x (.slice Ak ky ck) = cs at *
      have HZI := zero_in
      have HZL := Lib.hid zeroIn_len
      generalize (inCells ⟨List.replicate 32 0, 0, []⟩ (.slice none 0 0)).toArray = zs at *
      have HZI := Lib.hid HZI
      clear hky hcs
      go_wp2_with (refine wpList_elem rfl rfl rfl 53 (.tmp 29) (.tmp 4) (.tmp 30) rfl rfl rfl b (off + k * 34) (by rfl) cs _ HR.out Tryd.underlying53 rfl (by rw [HL.out]; exact size_in) zs HZI.out (by rw [HZL.out, HL.out]) HONE.out (by rfl) (by rfl) ?_; have hcell := HKY.out)
      · have h64 : (1000 : Int) < (ky : Int) := by assumption
        go_ret
        exact HGO.out true (fun h => by cases h) _ (HW.out.trans ((hb.out.alloc hb.out.size _).mono (by rw [HZ.out]; omega)))
      · have h64 : (ky : Int) ≤ 1000 := by assumption
        go_roundw
        case rel => exact ⟨k + 1, by omega, by go_num, Lib.hid (hb.out.alloc hb.out.size _)⟩
        case measure => simp [intOf]; omega
    · go_wp2_with fail
      go_ret
      exact HGO.out false (fun _ => by omega) _ (HW.out.trans (hb.out.mono (by rw [HZ.out]; omega)))
theorem great_any (m : Msgs.Msg) (A A1 A2 : Option Addr) (c c1 c2 B : Nat) (w : World) (h : MsgAt w B m A c A1 c1 A2 c2) (hB : B ≤ w.heap.size) :
    Calls Tryd.prog 7 #[msgV m A c A1 c1 A2 c2] w fun e w' => YesNo w w' e :=
  (great_any2 m A A1 A2 c c1 c2 B w h hB).mono fun e w' ⟨⟨v, hv, _⟩, hb⟩ => ⟨⟨v, hv⟩, hb⟩
/-! ### the document's examples -/
def exSend : Msgs.Msg := ⟨11, 0, 1, [], Txs.none⟩
def exPong : Msgs.Msg := ⟨4, 72057594037927943, 0, [], Txs.none⟩
def exVer : Msgs.Msg := ⟨2, 1, 0, [], Txs.none⟩
theorem plain_at (w : World) (B : Nat) (k : Int) (n c : Nat) (h1 : -9223372036854775808 ≤ k) (h2 : k ≤ 9223372036854775807) (h3 : n < 18446744073709551616) (h4 : c < 4294967296) : MsgAt w B ⟨k, n, c, [], Txs.none⟩ none 0 none 0 none 0 :=
  ⟨h1, h2, h3, h4, Nat.le_refl _, by simp [maxLen], fun i hi => by simp at hi, none_tx w B⟩
theorem put_send (w : World) : Calls Tryd.prog 8 #[.agg #[.int .i64 11, .int .u64 0, .int .u32 1, .slice none 0 0, .int .u32 0, .slice none 0 0, .slice none 0 0]] w fun e w' =>
    ∃ A c, e = .returned (.tuple #[.string ⟨#[115, 101, 110, 100, 115, 116, 101, 109]⟩, .slice A 1 c, .int .i64 0]) ∧ BytesAt w' w'.heap.size A [1] ∧ Below w.heap.size w w' :=
  (mput_any exSend none none none 0 0 0 0 w (plain_at w 0 11 0 1 (by decide) (by decide) (by decide) (by decide)) (Nat.zero_le _)).mono fun e w' ⟨v, he, ho, hb⟩ => by
    rw [show Msgs.put exSend = ([115, 101, 110, 100, 115, 116, 101, 109], [1], 0) by decide] at he ho
    obtain ⟨A, c, rfl, _, _, hat, _⟩ := OwnB.at_ ho
    exact ⟨A, c, he, hat, hb⟩
theorem put_ver (w : World) : Calls Tryd.prog 8 #[.agg #[.int .i64 2, .int .u64 1, .int .u32 0, .slice none 0 0, .int .u32 0, .slice none 0 0, .slice none 0 0]] w fun e w' =>
    ∃ v, e = .returned (.tuple #[.string ⟨#[]⟩, v, .int .i64 2]) ∧ Below w.heap.size w w' :=
  (mput_any exVer none none none 0 0 0 0 w (plain_at w 0 2 1 0 (by decide) (by decide) (by decide) (by decide)) (Nat.zero_le _)).mono fun e w' ⟨v, he, _, hb⟩ => by
    rw [show Msgs.put exVer = ([], [], 2) by decide] at he
    exact ⟨v, he, hb⟩
theorem bk_bytes8 {w : World} {g t : Nat} {bs : List UInt8} (h : Bk w g t (bytesArr bs)) : BytesAt w w.heap.size (some ⟨g, 0, none⟩) bs := by
  intro i hi
  refine ⟨g, 0, [byteV bs[i]], rfl, h.lt, rfl, fun j hj => ?_⟩
  obtain rfl : j = 0 := by simpa using hj
  rw [h.cell]
  simp [bytesArr, hi]
theorem get_ex (cmd : ByteArray) (bs : List UInt8) (cs : Array Value) (r : Msgs.Msg × Int) (hcs : cs = bytesArr bs) (hr : Msgs.get cmd.data.toList bs = r) (hn : bs.length ≤ 100) (W : World) (n : Nat) (hl : n = bs.length) :
    Calls Tryd.prog 10 #[.string cmd, .slice (some ⟨W.heap.size, 0, none⟩) n n] (W.alloc (.cells cs 5)) fun e w' => MsgOut (W.alloc (.cells cs 5)) w' r e := by
  subst hcs; subst hr; subst hl
  exact get_any cmd _ _ _ _ bs _ rfl (Nat.le_refl _) (by unfold maxLen; omega) (by omega) (bk_bytes8 (Bk.new _ _ _)) (Nat.le_refl _)
set_option maxHeartbeats 4000000 in
theorem alive_any (w : World) : Calls Tryd.prog 6 #[] w fun e w' => e = .returned (.bool true) ∧ Below w.heap.size w w' := by
  have HG1 := Lib.hid (get_ex ⟨#[105, 110, 118]⟩ [0] #[.int .u8 0] (Msgs.none, 9) rfl rfl (by decide))
  have HG2 := Lib.hid (get_ex ⟨#[118, 101, 114, 97, 99, 107]⟩ [1] #[.int .u8 1] (Msgs.none, 5) rfl rfl (by decide))
  have HG3 := Lib.hid (get_ex ⟨#[112, 111, 110, 103]⟩ [7, 0, 0, 0, 0, 0, 0, 1] #[.int .u8 7, .int .u8 0, .int .u8 0, .int .u8 0, .int .u8 0, .int .u8 0, .int .u8 0, .int .u8 1] (exPong, 0) rfl rfl (by decide))
  go_enter Tryd.func6, Tryd.ntmps6
  go_wp2_with fail
  refine (put_send w).mono ?_
  rintro e w1 ⟨A1, c1, rfl, hat1, hb1⟩
  have HB1 := Lib.hid hb1
  have HA1 := Lib.hid hat1
  clear hb1 hat1
  go_wp2_with fail
  refine (HG1.out w1 1 rfl).mono ?_
  rintro e w2 ⟨Aa, ca, Ab, cb, Ac, cc, rfl, hm2, hb2⟩
  have HB2 := Lib.hid (HB1.out.trans (((Joins.below_alloc1 w1 _).trans (hb2.mono (by simp))).mono HB1.out.size))
  have HA2 := Lib.hid (At.below HA1.out ((Joins.below_alloc1 w1 _).trans (hb2.mono (by simp))))
  have hz2 : w1.heap.size ≤ w2.heap.size := by have := hb2.size; simp at this; omega
  clear hb2 hm2 HA1 HG1
  unfold msgV
  simp only
  go_upto_region 3 with (fail)
  obtain ⟨w3, m3, hm3, _, _, hw3, hb3, hz3, _⟩ := msg_box w2 Msgs.none Aa Ab Ac ca cb cc
  rw [hm3] at hw3
  rw [← hw3]
  have HB3 := Lib.hid (HB2.out.trans (hb3.mono HB2.out.size))
  have HA3 := Lib.hid (At.below HA2.out (hb3.mono hz2))
  have hz3' : w2.heap.size ≤ w3.heap.size := by omega
  clear hw3 hm3 hb3 HA2 hz3
  go_wp2_with fail
  refine (HG2.out w3 1 rfl).mono ?_
  rintro e w4 ⟨Aa', ca', Ab', cb', Ac', cc', rfl, hm4, hb4⟩
  have hb34 := (Joins.below_alloc1 w3 (.cells #[.int .u8 1] 5)).trans (hb4.mono (by simp))
  have HB4 := Lib.hid (HB3.out.trans (hb34.mono HB3.out.size))
  have HA4 := Lib.hid (At.below HA3.out (hb34.mono (by omega)))
  have hz4 : w1.heap.size ≤ w4.heap.size := by have := hb34.size; omega
  clear hb34 hb4 hm4 HA3 HG2 hz3' hz2
  unfold msgV
  simp only
  go_upto_region 4 with (fail)
  obtain ⟨w5, m5, hm5, _, _, hw5, hb5, hz5, _⟩ := msg_box w4 Msgs.none Aa' Ab' Ac' ca' cb' cc'
  rw [hm5] at hw5
  rw [← hw5]
  have HB5 := Lib.hid (HB4.out.trans (hb5.mono HB4.out.size))
  have HA5 := Lib.hid (At.below HA4.out (hb5.mono hz4))
  have hz5' : w4.heap.size ≤ w5.heap.size := by omega
  clear hw5 hm5 hb5 HA4 hz5
  go_wp2_with fail
  refine (put_ver w5).mono ?_
  rintro e w6 ⟨v6, rfl, hb6⟩
  have HB6 := Lib.hid (HB5.out.trans (hb6.mono HB5.out.size))
  have HA6 := Lib.hid (At.below HA5.out (hb6.mono (by omega)))
  have hz6 : w1.heap.size ≤ w6.heap.size := by have := hb6.size; omega
  clear hb6 HA5 hz5' hz4
  go_wp2_with fail
  refine (HG3.out w6 8 rfl).mono ?_
  rintro e w7 ⟨Ad, cd, Ae, ce, Af, cf, rfl, hm7, hb7⟩
  have hb67 := (Joins.below_alloc1 w6 (.cells #[.int .u8 7, .int .u8 0, .int .u8 0, .int .u8 0, .int .u8 0, .int .u8 0, .int .u8 0, .int .u8 1] 5)).trans (hb7.mono (by simp))
  have HB7 := Lib.hid (HB6.out.trans (hb67.mono HB6.out.size))
  have HA7 := Lib.hid (At.below HA6.out (hb67.mono hz6))
  have hz7 : w1.heap.size ≤ w7.heap.size := by have := hb67.size; omega
  clear hb67 hb7 hm7 HA6 HG3 hz6
  unfold msgV
  simp only
  go_upto_region 6 with (fail)
  obtain ⟨w8, m8, hm8, _, _, hw8, hb8, hz8, hk8⟩ := msg_box w7 exPong Ad Ae Af cd ce cf
  have HK8 := Lib.hid hk8
  have HM8 := Lib.hid hm8
  rw [hm8] at hw8
  rw [← hw8]
  have HB8 := Lib.hid (HB7.out.trans (hb8.mono HB7.out.size))
  have HA8 := Lib.hid (At.below HA7.out (hb8.mono hz7))
  have hz8' : w1.heap.size ≤ w8.heap.size := by omega
  clear hw8 hm8 hb8 HA7 hk8 hz8
  go_wp2_with fail
  have hb89 := Joins.below_alloc1 w8 (.cells #[.int .u8 1] 5)
  refine (same_yes A1 (some ⟨w8.heap.size, 0, none⟩) 1 1 c1 1 [1] _ _ _ rfl rfl (by decide) (At.below HA8.out (hb89.mono hz8')) (bk_bytes8 (bs := [1]) (Bk.new _ _ _))).mono ?_
  rintro e w9 ⟨rfl, hb9⟩
  have hb89' := hb89.trans (hb9.mono (by simp))
  have hk9 := HK8.out.below hb89' HK8.out.lt
  have c0 : w9.cell? ⟨w7.heap.size, 0, none⟩ = some (.int .i64 4) := by rw [hk9.cell, HM8.out]; rfl
  have c1' : w9.cell? ⟨w7.heap.size, 1, none⟩ = some (.int .u64 72057594037927943) := by rw [hk9.cell, HM8.out]; rfl
  have HB9 := Lib.hid (HB8.out.trans (hb89'.mono HB8.out.size))
  clear hb89 hb9 hb89' hk9
  go_wp2_with fail
  go_ret
  exact ⟨rfl, HB9.out⟩
end Go.Proofs.YtanjlgkbjcienaaDoor.M8
/- Messages by msg.Same. -/
namespace Go.Proofs.YtanjlgkbjcienaaDoor.M8
open Go.RowKit Go.Deep T7
set_option linter.unusedVariables false
set_option linter.unusedSimpArgs false
set_option maxRecDepth 100000
attribute [local go_sem ↓] Go.wp_at_zero Go.wp_at_succ

theorem guard_hash8 : Tryd.prog.eqGuardType Tryd.prog.depth 49 = false := by kernel_rfl
theorem wpQuiet_ne_hash {ops : Array Oper} {C : World → Prop} {Q : Act → Prop} {a : Act} {o : Oper} {rest : List Oper} (hgd : o.guard = none) (x y : Operand) (b : TypeId) (ho : o.op = .binOp .neq 49 x y b)
    (p q : List UInt8) (hp : p.length = 32) (hq : q.length = 32) (hx : a.eval x = .agg (p.map byteV).toArray) (hy : a.eval y = .agg (q.map byteV).toArray) (r : Bool) (hr : (!decide (p = q)) = r)
    (h : wpQuiet Tryd.prog ops C Q rest (a.put o.dst (.bool r))) : wpQuiet Tryd.prog ops C Q (o :: rest) a :=
  wpQuiet_step fun K hK => by
    rw [if_pos (by simp [Region.wanted, hgd])]
    refine ⟨.bool r, fun w hw => ?_, hK _ h⟩
    subst hr
    unfold Oper.quietAt execOp
    simp only [ho, hx, hy, Sem.run_bind, run_eqGuard_agg w .neq 49 x y _ _ guard_hash8, Result.andThen_ok, run_ne_hash w p q hp hq, Sem.run_pure]
    exact ⟨rfl, rfl⟩
set_option maxHeartbeats 2000000 in
theorem heq_any (A A' : Option Addr) (n n' c c' B B' : Nat) (l l' : List (List UInt8)) (w : World) (hl : l.length = n) (hl' : l'.length = n') (hn : n ≤ 9223372036854775807) (hn' : n' ≤ 9223372036854775807) (h : HashesAt w B A l) (h' : HashesAt w B' A' l') :
    Calls Tryd.prog 28 #[.slice A n c, .slice A' n' c'] w fun r w' => r = .returned (.bool (decide (l = l'))) ∧ ∃ n, w' = w.drewN n := by
  have HO := Lib.hid h
  have HO' := Lib.hid h'
  have HN := Lib.hid hl
  have HN' := Lib.hid hl'
  clear h h'
  by_cases hnn : ¬ n = n'
  · have HD := Lib.hid (show decide (l = l') = false by rw [decide_eq_false_iff_not]; rintro rfl; omega)
    have hb : ((n : Int) != (n' : Int)) = true := by rw [bne_iff_ne]; omega
    clear hnn hl hl'
    go_enter Tryd.func28, Tryd.ntmps28
    go_wp2_with fail
    go_ret
    exact ⟨ret_bool HD.out.symm, 0, rfl⟩
  obtain rfl : n = n' := by omega
  clear hl hl' hnn
  go_enter Tryd.func28, Tryd.ntmps28
  go_wp2_with fail
  go_loopw [13] (fun i wr => ∃ k : Nat, k ≤ n ∧ i = .int .i64 (k : Int) ∧ Hid (l.take k = l'.take k) ∧ ∃ m, wr = w.drewN m) (fun i _ => n - (intOf i).toNat)
  case atStart => exact ⟨0, Nat.zero_le _, rfl, Lib.hid rfl, 0, rfl⟩
  case round =>
    obtain ⟨k, hk, rfl, ha, m, rfl⟩ := hrel
    by_cases hlt : k < n
    · have hlt1 : k < l.length := by rw [HN.out]; exact hlt
      have hlt2 : k < l'.length := by rw [HN'.out]; exact hlt
      obtain ⟨b, off, rfl, hbB, hr, hok⟩ := HO.out.range hlt1
      obtain ⟨b', off', rfl, hbB', hr', hok'⟩ := HO'.out.range hlt2
      have HSU := Lib.hid (fun hx => tk_succ hlt1 hlt2 ha.out hx)
      have HNX := Lib.hid (fun hx => show decide (l = l') = false from decide_eq_false (nth_ne hlt1 hlt2 hx))
      generalize l[k] = x at *
      generalize l'[k] = y at *
      have i1 : (0 : Int) ≤ (k : Int) := by omega
      have i2 : (k : Int) < (n : Int) := by omega
      have R1 := Lib.hid (show (w.drewN m).rangeAt b (off + k * 32) (x.map byteV) from hr)
      have R2 := Lib.hid (show (w.drewN m).rangeAt b' (off' + k * 32) (y.map byteV) from hr')
      have L1 := Lib.hid (show (x.map byteV).length = 32 by rw [List.length_map]; exact hok)
      have L2 := Lib.hid (show (y.map byteV).length = 32 by rw [List.length_map]; exact hok')
      have O1 := Lib.hid hok
      have O2 := Lib.hid hok'
      have HEQI := Lib.hid (show (!decide (x = y)) = false → x = y from fun h => by simpa using h)
      have HNEI := Lib.hid (show (!decide (x = y)) = true → x ≠ y from fun h => by simpa using h)
      clear hr hr' hok hok'
      go_wp2_with fail
      cases hpn : (!decide (x = y)) with
      | true =>
        have HF := Lib.hid (HNX.out (HNEI.out hpn))
        refine wp_region_quiet_lit (by kernel_rfl) (by kernel_rfl) ?_
        iterate 3 (go_big_quiet_step (fail))
        (refine wpQuiet_load_mid rfl 49 (.tmp 18) rfl b (off + k * 32) (by rfl) (x.map byteV) _ (fun w' ⟨n, e⟩ => by subst e; exact R1.out) Tryd.underlying49 rfl (by rw [L1.out]; exact size_hash) ?_; go_frame)
        iterate 3 (go_big_quiet_step (fail))
        (refine wpQuiet_load_mid rfl 49 (.tmp 22) rfl b' (off' + k * 32) (by rfl) (y.map byteV) _ (fun w' ⟨n, e⟩ => by subst e; exact R2.out) Tryd.underlying49 rfl (by rw [L2.out]; exact size_hash) ?_; go_frame)
        (refine wpQuiet_ne_hash rfl (.tmp 19) (.tmp 23) _ rfl x y O1.out O2.out (by rfl) (by rfl) true hpn ?_; go_frame)
        refine wpQuiet_nil ?_
        intro _ hw'
        obtain ⟨nq, hw''⟩ := hw'
        subst hw''
        go_wp2_with fail
        go_ret
        exact ⟨ret_bool HF.out.symm, m + nq, by first | rfl | simp⟩
      | false =>
        refine wp_region_quiet_lit (by kernel_rfl) (by kernel_rfl) ?_
        iterate 3 (go_big_quiet_step (fail))
        (refine wpQuiet_load_mid rfl 49 (.tmp 18) rfl b (off + k * 32) (by rfl) (x.map byteV) _ (fun w' ⟨n, e⟩ => by subst e; exact R1.out) Tryd.underlying49 rfl (by rw [L1.out]; exact size_hash) ?_; go_frame)
        iterate 3 (go_big_quiet_step (fail))
        (refine wpQuiet_load_mid rfl 49 (.tmp 22) rfl b' (off' + k * 32) (by rfl) (y.map byteV) _ (fun w' ⟨n, e⟩ => by subst e; exact R2.out) Tryd.underlying49 rfl (by rw [L2.out]; exact size_hash) ?_; go_frame)
        (refine wpQuiet_ne_hash rfl (.tmp 19) (.tmp 23) _ rfl x y O1.out O2.out (by rfl) (by rfl) false hpn ?_; go_frame)
        refine wpQuiet_nil ?_
        intro _ hw'
        obtain ⟨nq, hw''⟩ := hw'
        subst hw''
        have HTN := Lib.hid (HSU.out (HEQI.out hpn))
        go_wp2_with fail
        go_roundw
        case rel => exact ⟨k + 1, by omega, by go_num, HTN, m + nq, by first | rfl | simp⟩
        case measure => simp [intOf]; omega
    · have HD := Lib.hid (show decide (l = l') = true from decide_eq_true (take_all (by rw [HN.out]; omega) (by rw [HN'.out]; omega) ha.out))
      go_wp2_with fail
      go_ret
      exact ⟨ret_bool HD.out.symm, m, rfl⟩
/-! ### Same -/
def msRow (k mn mc : Int) (I : Value) (ver : Int) (i o : Value) : Array Value := #[.int .i64 k, .int .u64 mn, .int .u32 mc, I, .int .u32 ver, i, o]
theorem two_boxes (w : World) (C D : Array Value) : Below w.heap.size w ((w.alloc (.cells C 30)).alloc (.cells D 30)) := (Joins.below_alloc1 _ _).alloc (by simp) _
set_option maxHeartbeats 1000000 in
theorem msame_kind (k k' mn mn' mc mc' v v' : Int) (I I' i i' o o' : Value) (w : World) (h : (k == k') = false) :
    Calls Tryd.prog 11 #[.agg (msRow k mn mc I v i o), .agg (msRow k' mn' mc' I' v' i' o')] w fun e w' => e = .returned (.bool false) ∧ Below w.heap.size w w' := by
  unfold msRow
  go_enter Tryd.func11, Tryd.ntmps11
  go_wp2_with fail
  go_ret
  exact ⟨rfl, two_boxes w _ _⟩
set_option maxHeartbeats 1000000 in
theorem msame_n (k mn mn' mc mc' v v' : Int) (I I' i i' o o' : Value) (w : World) (h : (mn == mn') = false) :
    Calls Tryd.prog 11 #[.agg (msRow k mn mc I v i o), .agg (msRow k mn' mc' I' v' i' o')] w fun e w' => e = .returned (.bool false) ∧ Below w.heap.size w w' := by
  unfold msRow
  go_enter Tryd.func11, Tryd.ntmps11
  go_wp2_with fail
  go_ret
  exact ⟨rfl, two_boxes w _ _⟩
set_option maxHeartbeats 1000000 in
theorem msame_code (k mn mc mc' v v' : Int) (I I' i i' o o' : Value) (w : World) (h : (mc == mc') = false) :
    Calls Tryd.prog 11 #[.agg (msRow k mn mc I v i o), .agg (msRow k mn mc' I' v' i' o')] w fun e w' => e = .returned (.bool false) ∧ Below w.heap.size w w' := by
  unfold msRow
  go_enter Tryd.func11, Tryd.ntmps11
  go_wp2_with fail
  go_ret
  exact ⟨rfl, two_boxes w _ _⟩
set_option maxHeartbeats 2000000 in
theorem msame_ids (k mn mc v v' : Int) (i i' o o' : Value) (A A' : Option Addr) (n n' c c' B B' : Nat) (l l' : List (List UInt8)) (w : World) (hl : l.length = n) (hl' : l'.length = n') (hn : n ≤ maxLen) (hn' : n' ≤ maxLen) (h : HashesAt w B A l) (h' : HashesAt w B' A' l') (hB : B ≤ w.heap.size) (hB' : B' ≤ w.heap.size) (hne : l ≠ l') :
    Calls Tryd.prog 11 #[.agg (msRow k mn mc (.slice A n c) v i o), .agg (msRow k mn mc (.slice A' n' c') v' i' o')] w fun e w' => e = .returned (.bool false) ∧ Below w.heap.size w w' := by
  have HQ := Lib.hid (fun W (hb : Below w.heap.size w W) => heq_any A A' n n' c c' B B' l l' W hl hl' (by unfold maxLen at hn; omega) (by unfold maxLen at hn'; omega) (At.below h (hb.mono hB)) (At.below h' (hb.mono hB')))
  rw [decide_eq_false hne] at HQ
  unfold msRow
  obtain ⟨w1, hw1⟩ : ∃ w1, w1 = (w.alloc (.cells #[.int .i64 k, .int .u64 mn, .int .u32 mc, .slice A n c, .int .u32 v, i, o] 30)).alloc (.cells #[.int .i64 k, .int .u64 mn, .int .u32 mc, .slice A' n' c', .int .u32 v', i', o'] 30) := ⟨_, rfl⟩
  have HB1 := Lib.hid (show Below w.heap.size w w1 by rw [hw1]; exact two_boxes w _ _)
  clear hl hl' h h' hne hw1
  go_enter Tryd.func11, Tryd.ntmps11
  go_wp2_with fail
  refine (HQ.out _ (two_boxes w _ _)).mono ?_
  rintro e w2 ⟨rfl, nd, rfl⟩
  go_wp2_with fail
  go_ret
  exact ⟨rfl, below_drewN (two_boxes w _ _) nd⟩
set_option maxHeartbeats 2000000 in
theorem msame_self (m : Msgs.Msg) (A A1 A2 A' A1' A2' : Option Addr) (c c1 c2 c' c1' c2' B B' : Nat) (w : World) (h : MsgAt w B m A c A1 c1 A2 c2) (h' : MsgAt w B' m A' c' A1' c1' A2' c2') (hB : B ≤ w.heap.size) (hB' : B' ≤ w.heap.size) :
    Calls Tryd.prog 11 #[msgV m A c A1 c1 A2 c2, msgV m A' c' A1' c1' A2' c2'] w fun e w' => e = .returned (.bool true) ∧ Below w.heap.size w w' := by
  have hn : m.ids.length ≤ 9223372036854775807 := by have h1 := h.ic; have h2 := h.im; unfold maxLen at h2; omega
  have HQ := Lib.hid (fun W (hb : Below w.heap.size w W) => heq_any A A' _ _ c c' B B' m.ids m.ids W rfl rfl hn hn (At.below h.ids (hb.mono hB)) (At.below h'.ids (hb.mono hB')))
  have HT := Lib.hid (fun W (hb : Below w.heap.size w W) => same7_any m.tx m.tx A1 A2 A1' A2' c1 c2 c1' c2' B B' W (h.tx.below (hb.mono hB)) (h'.tx.below (hb.mono hB')) (Nat.le_trans hB hb.size) (Nat.le_trans hB' hb.size))
  rw [decide_eq_true rfl] at HQ HT
  obtain ⟨wa, ma, hma, hva, hm7a, hwa, hba, hza, hka⟩ := msg_box w m A A1 A2 c c1 c2
  obtain ⟨wb, mb, hmb, hvb, hm7b, hwb, hbb, hzb, hkb⟩ := msg_box wa m A' A1' A2' c' c1' c2'
  have HBB := Lib.hid (hba.trans (hbb.mono hba.size))
  have HKA := Lib.hid (show Bk wb w.heap.size 30 ma by rw [hwb]; exact hka.alloc _)
  have HKB := Lib.hid hkb
  rw [hma] at HKA hwa
  rw [hmb] at HKB hwb
  have hgo : wb = (w.alloc (.cells #[.int .i64 m.kind, .int .u64 (m.n : Int), .int .u32 (m.code : Int), .slice A m.ids.length c, .int .u32 (m.tx.version : Int), .slice A1 m.tx.ins.length c1, .slice A2 m.tx.outs.length c2] 30)).alloc (.cells #[.int .i64 m.kind, .int .u64 (m.n : Int), .int .u32 (m.code : Int), .slice A' m.ids.length c', .int .u32 (m.tx.version : Int), .slice A1' m.tx.ins.length c1', .slice A2' m.tx.outs.length c2'] 30) := by rw [hwb, hwa]
  have hga : wa.heap.size = w.heap.size + 1 := hza
  rw [hga] at HKB
  have a4 := (HKA.out.cell 4).trans rfl
  have a5 := (HKA.out.cell 5).trans rfl
  have a6 := (HKA.out.cell 6).trans rfl
  unfold msgV
  unfold txV at HT
  clear hma hva hm7a hwa hba hza hka hmb hvb hm7b hwb hbb hzb hkb h h' hga a4 a5 a6
  go_enter Tryd.func11, Tryd.ntmps11
  go_wp2_with fail
  rw [← hgo]
  refine (HQ.out wb HBB.out).mono ?_
  rintro e w2 ⟨rfl, nd, rfl⟩
  have HBD := Lib.hid (below_drewN HBB.out nd)
  have a4 : (wb.drewN nd).cell? ⟨w.heap.size, 4, none⟩ = some (.int .u32 (m.tx.version : Int)) := (HKA.out.cell 4).trans rfl
  have a5 : (wb.drewN nd).cell? ⟨w.heap.size, 5, none⟩ = some (.slice A1 m.tx.ins.length c1) := (HKA.out.cell 5).trans rfl
  have a6 : (wb.drewN nd).cell? ⟨w.heap.size, 6, none⟩ = some (.slice A2 m.tx.outs.length c2) := (HKA.out.cell 6).trans rfl
  have b4 : (wb.drewN nd).cell? ⟨w.heap.size + 1, 4, none⟩ = some (.int .u32 (m.tx.version : Int)) := (HKB.out.cell 4).trans rfl
  have b5 : (wb.drewN nd).cell? ⟨w.heap.size + 1, 5, none⟩ = some (.slice A1' m.tx.ins.length c1') := (HKB.out.cell 5).trans rfl
  have b6 : (wb.drewN nd).cell? ⟨w.heap.size + 1, 6, none⟩ = some (.slice A2' m.tx.outs.length c2') := (HKB.out.cell 6).trans rfl
  generalize wb.drewN nd = wd at *
  clear hgo
  go_wp2_with fail
  refine (HT.out wd HBD.out).mono ?_
  rintro e w3 ⟨rfl, hb3⟩
  have HB3 := Lib.hid (HBD.out.trans (hb3.mono HBD.out.size))
  clear hb3
  go_wp2_with fail
  go_ret
  exact ⟨rfl, HB3.out⟩
end Go.Proofs.YtanjlgkbjcienaaDoor.M8
/- The document's messages: names, Same. -/
namespace Go.Proofs.YtanjlgkbjcienaaDoor.M8
open Go.RowKit Go.Deep T7
set_option linter.unusedVariables false
set_option linter.unusedSimpArgs false
set_option maxRecDepth 100000
attribute [local go_sem ↓] Go.wp_at_zero Go.wp_at_succ

theorem name_yes (k : Int) (hk : Msgs.known k = true) (w : World) : Calls Tryd.prog 33 #[.int .i64 k] w fun e w' => e = .returned (.string ⟨(Msgs.shp k).cmd.toArray⟩) ∧ w = w' := by
  rcases Msgs.known_cases hk with rfl | rfl | rfl | rfl | rfl | rfl | rfl | rfl | rfl | rfl | rfl
  all_goals
    clear hk
    go_enter Tryd.func33, Tryd.ntmps33
    go_wp2_with fail
    go_ret
    exact ⟨rfl, rfl⟩
set_option maxHeartbeats 2000000 in
theorem sameids_any (A A' : Option Addr) (n n' c c' B B' : Nat) (l l' : List (List UInt8)) (w : World) (hl : l.length = n) (hl' : l'.length = n') (hn : n ≤ 9223372036854775807) (hn' : n' ≤ 9223372036854775807) (h : HashesAt w B A l) (h' : HashesAt w B' A' l') :
    Calls Tryd.prog 30 #[.slice A n c, .slice A' n' c'] w fun r w' => r = .returned (.bool (decide (l = l'))) ∧ ∃ n, w' = w.drewN n := by
  have HO := Lib.hid h
  have HO' := Lib.hid h'
  have HN := Lib.hid hl
  have HN' := Lib.hid hl'
  clear h h'
  by_cases hnn : ¬ n = n'
  · have HD := Lib.hid (show decide (l = l') = false by rw [decide_eq_false_iff_not]; rintro rfl; omega)
    have hb : ((n : Int) != (n' : Int)) = true := by rw [bne_iff_ne]; omega
    clear hnn hl hl'
    go_enter Tryd.func30, Tryd.ntmps30
    go_wp2_with fail
    go_ret
    exact ⟨ret_bool HD.out.symm, 0, rfl⟩
  obtain rfl : n = n' := by omega
  clear hl hl' hnn
  go_enter Tryd.func30, Tryd.ntmps30
  go_wp2_with fail
  go_loopw [13] (fun i wr => ∃ k : Nat, k ≤ n ∧ i = .int .i64 (k : Int) ∧ Hid (l.take k = l'.take k) ∧ ∃ m, wr = w.drewN m) (fun i _ => n - (intOf i).toNat)
  case atStart => exact ⟨0, Nat.zero_le _, rfl, Lib.hid rfl, 0, rfl⟩
  case round =>
    obtain ⟨k, hk, rfl, ha, m, rfl⟩ := hrel
    by_cases hlt : k < n
    · have hlt1 : k < l.length := by rw [HN.out]; exact hlt
      have hlt2 : k < l'.length := by rw [HN'.out]; exact hlt
      obtain ⟨b, off, rfl, hbB, hr, hok⟩ := HO.out.range hlt1
      obtain ⟨b', off', rfl, hbB', hr', hok'⟩ := HO'.out.range hlt2
      have HSU := Lib.hid (fun hx => tk_succ hlt1 hlt2 ha.out hx)
      have HNX := Lib.hid (fun hx => show decide (l = l') = false from decide_eq_false (nth_ne hlt1 hlt2 hx))
      generalize l[k] = x at *
      generalize l'[k] = y at *
      have i1 : (0 : Int) ≤ (k : Int) := by omega
      have i2 : (k : Int) < (n : Int) := by omega
      have R1 := Lib.hid (show (w.drewN m).rangeAt b (off + k * 32) (x.map byteV) from hr)
      have R2 := Lib.hid (show (w.drewN m).rangeAt b' (off' + k * 32) (y.map byteV) from hr')
      have L1 := Lib.hid (show (x.map byteV).length = 32 by rw [List.length_map]; exact hok)
      have L2 := Lib.hid (show (y.map byteV).length = 32 by rw [List.length_map]; exact hok')
      have O1 := Lib.hid hok
      have O2 := Lib.hid hok'
      have HEQI := Lib.hid (show (!decide (x = y)) = false → x = y from fun h => by simpa using h)
      have HNEI := Lib.hid (show (!decide (x = y)) = true → x ≠ y from fun h => by simpa using h)
      clear hr hr' hok hok'
      go_wp2_with fail
      cases hpn : (!decide (x = y)) with
      | true =>
        have HF := Lib.hid (HNX.out (HNEI.out hpn))
        refine wp_region_quiet_lit (by kernel_rfl) (by kernel_rfl) ?_
        iterate 3 (go_big_quiet_step (fail))
        (refine wpQuiet_load_mid rfl 49 (.tmp 18) rfl b (off + k * 32) (by rfl) (x.map byteV) _ (fun w' ⟨n, e⟩ => by subst e; exact R1.out) Tryd.underlying49 rfl (by rw [L1.out]; exact size_hash) ?_; go_frame)
        iterate 3 (go_big_quiet_step (fail))
        (refine wpQuiet_load_mid rfl 49 (.tmp 22) rfl b' (off' + k * 32) (by rfl) (y.map byteV) _ (fun w' ⟨n, e⟩ => by subst e; exact R2.out) Tryd.underlying49 rfl (by rw [L2.out]; exact size_hash) ?_; go_frame)
        (refine wpQuiet_ne_hash rfl (.tmp 19) (.tmp 23) _ rfl x y O1.out O2.out (by rfl) (by rfl) true hpn ?_; go_frame)
        refine wpQuiet_nil ?_
        intro _ hw'
        obtain ⟨nq, hw''⟩ := hw'
        subst hw''
        go_wp2_with fail
        go_ret
        exact ⟨ret_bool HF.out.symm, m + nq, by first | rfl | simp⟩
      | false =>
        refine wp_region_quiet_lit (by kernel_rfl) (by kernel_rfl) ?_
        iterate 3 (go_big_quiet_step (fail))
        (refine wpQuiet_load_mid rfl 49 (.tmp 18) rfl b (off + k * 32) (by rfl) (x.map byteV) _ (fun w' ⟨n, e⟩ => by subst e; exact R1.out) Tryd.underlying49 rfl (by rw [L1.out]; exact size_hash) ?_; go_frame)
        iterate 3 (go_big_quiet_step (fail))
        (refine wpQuiet_load_mid rfl 49 (.tmp 22) rfl b' (off' + k * 32) (by rfl) (y.map byteV) _ (fun w' ⟨n, e⟩ => by subst e; exact R2.out) Tryd.underlying49 rfl (by rw [L2.out]; exact size_hash) ?_; go_frame)
        (refine wpQuiet_ne_hash rfl (.tmp 19) (.tmp 23) _ rfl x y O1.out O2.out (by rfl) (by rfl) false hpn ?_; go_frame)
        refine wpQuiet_nil ?_
        intro _ hw'
        obtain ⟨nq, hw''⟩ := hw'
        subst hw''
        have HTN := Lib.hid (HSU.out (HEQI.out hpn))
        go_wp2_with fail
        go_roundw
        case rel => exact ⟨k + 1, by omega, by go_num, HTN, m + nq, by first | rfl | simp⟩
        case measure => simp [intOf]; omega
    · have HD := Lib.hid (show decide (l = l') = true from decide_eq_true (take_all (by rw [HN.out]; omega) (by rw [HN'.out]; omega) ha.out))
      go_wp2_with fail
      go_ret
      exact ⟨ret_bool HD.out.symm, m, rfl⟩
set_option maxHeartbeats 2000000 in
theorem rsame_self8 (m : Msgs.Msg) (A A1 A2 A' A1' A2' : Option Addr) (c c1 c2 c' c1' c2' B B' : Nat) (w : World) (h : MsgAt w B m A c A1 c1 A2 c2) (h' : MsgAt w B' m A' c' A1' c1' A2' c2') (hB : B ≤ w.heap.size) (hB' : B' ≤ w.heap.size) :
    Calls Tryd.prog 12 #[msgV m A c A1 c1 A2 c2, msgV m A' c' A1' c1' A2' c2'] w fun e w' => e = .returned (.bool true) ∧ Below w.heap.size w w' := by
  have hn : m.ids.length ≤ 9223372036854775807 := by have h1 := h.ic; have h2 := h.im; unfold maxLen at h2; omega
  have HQ := Lib.hid (fun W (hb : Below w.heap.size w W) => sameids_any A A' _ _ c c' B B' m.ids m.ids W rfl rfl hn hn (At.below h.ids (hb.mono hB)) (At.below h'.ids (hb.mono hB')))
  have HT := Lib.hid (fun W (hb : Below w.heap.size w W) => rsame_any m.tx m.tx A1 A2 A1' A2' c1 c2 c1' c2' B B' W (h.tx.below (hb.mono hB)) (h'.tx.below (hb.mono hB')) (Nat.le_trans hB hb.size) (Nat.le_trans hB' hb.size))
  rw [decide_eq_true rfl] at HQ HT
  obtain ⟨wa, ma, hma, hva, hm7a, hwa, hba, hza, hka⟩ := msg_box w m A A1 A2 c c1 c2
  obtain ⟨wb, mb, hmb, hvb, hm7b, hwb, hbb, hzb, hkb⟩ := msg_box wa m A' A1' A2' c' c1' c2'
  have HBB := Lib.hid (hba.trans (hbb.mono hba.size))
  have HKA := Lib.hid (show Bk wb w.heap.size 30 ma by rw [hwb]; exact hka.alloc _)
  have HKB := Lib.hid hkb
  rw [hma] at HKA hwa
  rw [hmb] at HKB hwb
  have hgo : wb = (w.alloc (.cells #[.int .i64 m.kind, .int .u64 (m.n : Int), .int .u32 (m.code : Int), .slice A m.ids.length c, .int .u32 (m.tx.version : Int), .slice A1 m.tx.ins.length c1, .slice A2 m.tx.outs.length c2] 30)).alloc (.cells #[.int .i64 m.kind, .int .u64 (m.n : Int), .int .u32 (m.code : Int), .slice A' m.ids.length c', .int .u32 (m.tx.version : Int), .slice A1' m.tx.ins.length c1', .slice A2' m.tx.outs.length c2'] 30) := by rw [hwb, hwa]
  have hga : wa.heap.size = w.heap.size + 1 := hza
  rw [hga] at HKB
  have a4 := (HKA.out.cell 4).trans rfl
  have a5 := (HKA.out.cell 5).trans rfl
  have a6 := (HKA.out.cell 6).trans rfl
  unfold msgV
  unfold txV at HT
  clear hma hva hm7a hwa hba hza hka hmb hvb hm7b hwb hbb hzb hkb h h' hga a4 a5 a6
  go_enter Tryd.func12, Tryd.ntmps12
  go_wp2_with fail
  rw [← hgo]
  refine (HQ.out wb HBB.out).mono ?_
  rintro e w2 ⟨rfl, nd, rfl⟩
  have HBD := Lib.hid (below_drewN HBB.out nd)
  have a4 : (wb.drewN nd).cell? ⟨w.heap.size, 4, none⟩ = some (.int .u32 (m.tx.version : Int)) := (HKA.out.cell 4).trans rfl
  have a5 : (wb.drewN nd).cell? ⟨w.heap.size, 5, none⟩ = some (.slice A1 m.tx.ins.length c1) := (HKA.out.cell 5).trans rfl
  have a6 : (wb.drewN nd).cell? ⟨w.heap.size, 6, none⟩ = some (.slice A2 m.tx.outs.length c2) := (HKA.out.cell 6).trans rfl
  have b4 : (wb.drewN nd).cell? ⟨w.heap.size + 1, 4, none⟩ = some (.int .u32 (m.tx.version : Int)) := (HKB.out.cell 4).trans rfl
  have b5 : (wb.drewN nd).cell? ⟨w.heap.size + 1, 5, none⟩ = some (.slice A1' m.tx.ins.length c1') := (HKB.out.cell 5).trans rfl
  have b6 : (wb.drewN nd).cell? ⟨w.heap.size + 1, 6, none⟩ = some (.slice A2' m.tx.outs.length c2') := (HKB.out.cell 6).trans rfl
  generalize wb.drewN nd = wd at *
  clear hgo
  go_wp2_with fail
  refine (HT.out wd HBD.out).mono ?_
  rintro e w3 ⟨rfl, hb3⟩
  have HB3 := Lib.hid (HBD.out.trans (hb3.mono HBD.out.size))
  clear hb3
  go_wp2_with fail
  go_ret
  exact ⟨rfl, HB3.out⟩

end Go.Proofs.YtanjlgkbjcienaaDoor.M8
/- A message's frame (package msg); what a body's length is. -/
namespace Go.Proofs.YtanjlgkbjcienaaDoor.M8
open Go.RowKit Go.Deep T7
set_option linter.unusedVariables false
set_option linter.unusedSimpArgs false
set_option maxRecDepth 100000
attribute [local go_sem ↓] Go.wp_at_zero Go.wp_at_succ

theorem put_len8 {m : Msgs.Msg} (hk : m.Ok) {c b : List UInt8} (h : Msgs.put m = (c, b, 0)) : b.length ≤ 2000 := by
  obtain ⟨f, hc, hd⟩ := Msgs.put_iff.1 h
  clear h
  rcases hd with ⟨ht, hf, hb⟩ | ⟨ht, hb⟩
  · rw [hb]; exact Txs.bytes_small hk.tx hf
  · rw [hb]
    by_cases hq : (Msgs.shp m.kind).count = true
    · obtain ⟨h1, h2, h3, h4⟩ := Msgs.body_count hk f hq
      rw [h4, List.length_append, h3, Oct.var_length]
      have := Oct.size_pos m.ids.length
      omega
    · have hq : (Msgs.shp m.kind).count = false := by simpa using hq
      obtain ⟨h1, h2, h3, h4⟩ := Msgs.body_plain hk f hq
      have hfa := Msgs.facts m.kind
      have h5 := hfa.ids hq
      have h6 := hfa.code
      have h7 := hfa.n
      rw [h4]; unfold Msgs.sizeOf
      omega
theorem data_of8 (c : List UInt8) : (⟨c.toArray⟩ : ByteArray).data.toList = c := by simp
theorem size_of8 (c : List UInt8) : (⟨c.toArray⟩ : ByteArray).size = c.length := by rw [← str_len]
theorem cmd_named {k : Int} (h : Msgs.known k = true) : Frm.named (Msgs.shp k).cmd = true := by
  rcases Msgs.known_cases h with rfl | rfl | rfl | rfl | rfl | rfl | rfl | rfl | rfl | rfl | rfl <;> decide
theorem put_named {m : Msgs.Msg} {c b : List UInt8} (h : Msgs.put m = (c, b, 0)) : Frm.named c = true := by
  obtain ⟨hk, _, rfl⟩ := Msgs.put_known h
  exact cmd_named hk
theorem put_err {m : Msgs.Msg} {c b : List UInt8} {e : Int} (h : Msgs.put m = (c, b, e)) (he : e ≠ 0) : c = [] ∧ b = [] := by
  unfold Msgs.put at h
  split at h
  · injection h with h1 h2; injection h2 with h2 h3; exact ⟨h1.symm, h2.symm⟩
  · split at h
    · split at h
      · injection h with h1 h2; injection h2 with h2 h3; exact absurd h3.symm he
      · injection h with h1 h2; injection h2 with h2 h3; exact ⟨h1.symm, h2.symm⟩
    · injection h with h1 h2; injection h2 with h2 h3; exact absurd h3.symm he
set_option maxHeartbeats 4000000 in
theorem mframe_no (m : Msgs.Msg) (A A1 A2 : Option Addr) (c c1 c2 B : Nat) (w : World) (h : MsgAt w B m A c A1 c1 A2 c2) (hB : B ≤ w.heap.size) (cmd body : List UInt8) (er : Int) (hx : Msgs.put m = (cmd, body, er)) (he : er ≠ 0) :
    Calls Tryd.prog 9 #[msgV m A c A1 c1 A2 c2] w fun e w' => e = .returned (.tuple #[.slice none 0 0, .int .i64 er]) ∧ Below w.heap.size w w' := by
  have HP := Lib.hid (fun W (hb : Below w.heap.size w W) => mput_any m A A1 A2 c c1 c2 B W (h.below (hb.mono hB)) (Nat.le_trans hB hb.size))
  obtain ⟨w1, ms, hms, hv, hms7, hw1, hb1, hz1, hk1⟩ := msg_box w m A A1 A2 c c1 c2
  have HB1 := Lib.hid hb1
  have HK1 := Lib.hid hk1
  have HM7 := Lib.hid hms7
  rw [hv, hx] at HP
  rw [hv]
  have e1 : (er != 0) = true := by rw [bne_iff_ne]; exact he
  clear hb1 hk1 hms7 hms hv h hx he hz1
  go_enter Tryd.func9, Tryd.ntmps9
  go_upto_region 1 with (fail)
  rw [← hw1]
  clear hw1
  go_wp2_with (refine wpList_load_row rfl 30 (.tmp 1) rfl w.heap.size (by rfl) 30 ms (0, 0) _ HK1.out Tryd.underlying30 rfl (by rw [HM7.out]; exact size_msg) ?_)
  refine (HP.out w1 HB1.out).mono ?_
  rintro e w2 ⟨v2, rfl, ho2, hb2⟩
  simp only at ho2 ⊢
  have HB2 := Lib.hid (HB1.out.trans (hb2.mono HB1.out.size))
  clear hb2 HP
  go_wp2_with fail
  go_ret2
  exact ⟨rfl, HB2.out⟩
set_option maxHeartbeats 4000000 in
theorem mframe_yes (m : Msgs.Msg) (A A1 A2 : Option Addr) (c c1 c2 B : Nat) (w : World) (h : MsgAt w B m A c A1 c1 A2 c2) (hB : B ≤ w.heap.size) (cmd body : List UInt8) (hx : Msgs.put m = (cmd, body, 0)) (hlay : Laid w) :
    Calls Tryd.prog 9 #[msgV m A c A1 c1 A2 c2] w fun e w' => ∃ v, e = .returned (.tuple #[v, .int .i64 0]) ∧ OwnB w' w.heap.size v (Frm.put cmd body) ∧ Below w.heap.size w w' := by
  have HP := Lib.hid (fun W (hb : Below w.heap.size w W) => mput_any m A A1 A2 c c1 c2 B W (h.below (hb.mono hB)) (Nat.le_trans hB hb.size))
  have HN := Lib.hid (put_named hx)
  have HL := Lib.hid (put_len8 h.ok hx)
  have HLAY := Lib.hid hlay
  obtain ⟨w1, ms, hms, hv, hms7, hw1, hb1, hz1, hk1⟩ := msg_box w m A A1 A2 c c1 c2
  have HB1 := Lib.hid hb1
  have HK1 := Lib.hid hk1
  have HM7 := Lib.hid hms7
  rw [hv, hx] at HP
  rw [hv]
  clear hb1 hk1 hms7 hms hv h hx hlay hz1
  go_enter Tryd.func9, Tryd.ntmps9
  go_upto_region 1 with (fail)
  rw [← hw1]
  clear hw1
  go_wp2_with (refine wpList_load_row rfl 30 (.tmp 1) rfl w.heap.size (by rfl) 30 ms (0, 0) _ HK1.out Tryd.underlying30 rfl (by rw [HM7.out]; exact size_msg) ?_)
  refine (HP.out w1 HB1.out).mono ?_
  rintro e w2 ⟨v2, rfl, ho2, hb2⟩
  simp only at ho2 ⊢
  have HB2 := Lib.hid (HB1.out.trans (hb2.mono HB1.out.size))
  clear hb2 HP
  obtain ⟨A2', c2', rfl, hc2, hm2, hat2, _⟩ := ho2.at_
  have HPUT := Lib.hid (put_yes ⟨cmd.toArray⟩ A2' c2' w2.heap.size body w2 (HLAY.out.below HB2.out) (by rw [size_of8]; have := (named_len HN.out).2.1; omega) (by rw [data_of8]; exact HN.out) (by have := HL.out; omega) hat2 (Nat.le_refl _) hc2 hm2)
  rw [data_of8] at HPUT
  clear ho2 hc2 hm2 hat2
  go_wp2_with fail
  refine HPUT.out.mono ?_
  rintro e w3 ⟨v3, rfl, ho3, hb3⟩
  have HO3 := Lib.hid (own_mono ho3 HB2.out.size)
  have HB3 := Lib.hid (HB2.out.trans (hb3.mono HB2.out.size))
  clear ho3 hb3 HPUT
  go_wp2_with fail
  go_ret2
  exact ⟨v3, rfl, HO3.out, HB3.out⟩
end Go.Proofs.YtanjlgkbjcienaaDoor.M8
