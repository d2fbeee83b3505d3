/- The law's own functions: what is looked at; the document's examples. -/
import Derived.Test.YtanjlgkbjcienaaMsgGet
import Derived.Test.YtanjlgkbjcienaaMsgPut
namespace Go.Proofs.Ytanjlgkbjcienaa.M8
open Go.RowKit Go.Deep T7
set_option linter.unusedVariables false
set_option linter.unusedSimpArgs false
set_option maxRecDepth 100000
attribute [local go_sem ↓] Go.wp_at_zero Go.wp_at_succ

/-- yes or no, and nothing that was there has changed -/
def YesNo (w w' : World) (e : Ending) : Prop := (∃ v : Bool, e = .returned (.bool v)) ∧ Below w.heap.size w w'
/-- .. and who says no has few ids -/
def GreatOut (m : Msgs.Msg) (w w' : World) (e : Ending) : Prop := (∃ v : Bool, e = .returned (.bool v) ∧ (v = false → m.ids.length ≤ 100)) ∧ Below w.heap.size w w'
/-- a message in a variable -/
theorem msg_box (w : World) (m : Msgs.Msg) (A A1 A2 : Option Addr) (c c1 c2 : Nat) : ∃ w1 ms, ms = #[.int .i64 m.kind, .int .u64 (m.n : Int), .int .u32 (m.code : Int), .slice A m.ids.length c, .int .u32 (m.tx.version : Int), .slice A1 m.tx.ins.length c1, .slice A2 m.tx.outs.length c2] ∧
    msgV m A c A1 c1 A2 c2 = .agg ms ∧ ms.size = 7 ∧ w1 = w.alloc (.cells ms 32) ∧ Below w.heap.size w w1 ∧ w1.heap.size = w.heap.size + 1 ∧ Bk w1 w.heap.size 32 ms :=
  ⟨_, _, rfl, rfl, rfl, rfl, Joins.below_alloc1 _ _, by simp, Bk.new _ _ _⟩
set_option maxHeartbeats 2000000 in
theorem great_any2 (m : Msgs.Msg) (A A1 A2 : Option Addr) (c c1 c2 B : Nat) (w : World) (h : MsgAt w B m A c A1 c1 A2 c2) (hB : B ≤ w.heap.size) :
    Calls Try.prog 13 #[msgV m A c A1 c1 A2 c2] w fun e w' => GreatOut m w w' e := by
  have hmk := Nat.le_trans h.ic h.im
  have hmi := Nat.le_trans h.tx.ic h.tx.im
  have hmo := Nat.le_trans h.tx.oc h.tx.om
  unfold maxLen at hmk hmi hmo
  have HI := Lib.hid h.tx.ins
  obtain ⟨w1, ms, hms, hv, _, hw1, hW, hZ, hK⟩ := msg_box w m A A1 A2 c c1 c2
  unfold msgV
  rw [hms] at hw1
  have HMS := Lib.hid hms
  have HW := Lib.hid hW
  have HZ := Lib.hid hZ
  have HK := Lib.hid hK
  have HI1 := Lib.hid (show InsAt w1 B A1 m.tx.ins from HI.out.below (HW.out.mono hB))
  have k5 : w1.cell? ⟨w.heap.size, 5, none⟩ = some (.slice A1 m.tx.ins.length c1) := by rw [HK.out.cell, HMS.out]; rfl
  clear hms hv hW hZ hK h
  generalize m.kind = k at *
  generalize (m.n : Int) = mn at *
  generalize (m.code : Int) = mc at *
  have HGO := Lib.hid (fun (v : Bool) (hv : v = false → m.ids.length ≤ 100) (x : World) (hb : Below w.heap.size w x) => (show GreatOut m w x (.returned (.bool v)) from ⟨⟨v, rfl, hv⟩, hb⟩))
  obtain ⟨ni, hni⟩ : ∃ ni, ni = m.ids.length := ⟨_, rfl⟩
  rw [← hni] at hw1 hmk HGO HMS ⊢
  clear hni
  generalize (m.tx.version : Int) = ver at *
  obtain ⟨ins, hins⟩ : ∃ ins, ins = m.tx.ins := ⟨_, rfl⟩
  rw [← hins] at HI1 k5 hw1 hmi ⊢
  generalize m.tx.outs.length = no at *
  clear hins HI HMS
  have BAD : ∀ x, x = w1 → GreatOut m w x (.returned (.bool true)) := fun x hx => ⟨⟨true, rfl, fun h => by cases h⟩, by rw [hx]; exact HW.out⟩
  have HBAD := Lib.hid BAD
  clear BAD
  by_cases h0 : 100 < ni
  · have h0' : (100 : Int) < (ni : Int) := by omega
    go_enter Try.func13, Try.ntmps13
    go_wp2_with fail
    go_ret
    exact HBAD.out _ hw1.symm
  have h0' : ¬ (100 : Int) < (ni : Int) := by omega
  by_cases h1 : 100 < ins.length
  · have h1' : (100 : Int) < (ins.length : Int) := by omega
    go_enter Try.func13, Try.ntmps13
    go_wp2_with fail
    go_ret
    exact HBAD.out _ hw1.symm
  have h1' : ¬ (100 : Int) < (ins.length : Int) := by omega
  by_cases h2 : 100 < no
  · have h2' : (100 : Int) < (no : Int) := by omega
    go_enter Try.func13, Try.ntmps13
    go_wp2_with fail
    go_ret
    exact HBAD.out _ hw1.symm
  have h2' : ¬ (100 : Int) < (no : Int) := by omega
  clear h0 h1 h2 HBAD
  go_enter Try.func13, Try.ntmps13
  go_wp2_with fail
  rw [← hw1]
  clear hw1
  go_loopw [27] (fun i wr => ∃ k : Nat, k ≤ ins.length ∧ i = .int .i64 (k : Int) ∧ Hid (Below w1.heap.size w1 wr)) (fun i _ => ins.length - (intOf i).toNat)
  case atStart => exact ⟨0, Nat.zero_le _, rfl, Lib.hid (Below.refl _ _)⟩
  case round =>
    obtain ⟨k, hk, rfl, hb⟩ := hrel
    by_cases hlt : k < ins.length
    · obtain ⟨b, off, Ak, ck, rfl, _, hr, hok, hkc, hkm, _⟩ := (HI1.out.below (hb.out.mono (by rw [HZ.out]; omega))).range hlt
      have HR := Lib.hid hr
      have HOK := Lib.hid hok
      clear hr hok
      generalize ins[k] = x at *
      have HL := Lib.hid (inCells_len HOK.out (.slice Ak x.key.length ck))
      have HKY := Lib.hid (in_key (Bk.new _ 72 (inCells x (.slice Ak x.key.length ck)).toArray : Bk (wr.alloc (.cells (inCells x (.slice Ak x.key.length ck)).toArray 72)) wr.heap.size _ _) HOK.out)
      have HONE := Lib.hid (inCells_one x Ak x.key.length ck)
      have hkl : x.key.length ≤ 9223372036854775807 := by unfold maxLen at hkm; omega
      obtain ⟨ky, hky⟩ : ∃ ky, ky = x.key.length := ⟨_, rfl⟩
      rw [← hky] at HR HL HKY HONE hkl hkc
      generalize hcs : inCells x (.slice Ak ky ck) = cs at *
      have HZI := zero_in
      have HZL := Lib.hid zeroIn_len
      generalize (inCells ⟨List.replicate 32 0, 0, []⟩ (.slice none 0 0)).toArray = zs at *
      have HZI := Lib.hid HZI
      clear hky hcs
      go_wp2_with (refine wpList_elem rfl rfl rfl 72 (.tmp 29) (.tmp 4) (.tmp 30) rfl rfl rfl b (off + k * 34) (by rfl) cs _ HR.out Try.underlying72 rfl (by rw [HL.out]; exact size_in) zs HZI.out (by rw [HZL.out, HL.out]) HONE.out (by rfl) (by rfl) ?_; have hcell := HKY.out)
      · have h64 : (1000 : Int) < (ky : Int) := by assumption
        go_ret
        exact HGO.out true (fun h => by cases h) _ (HW.out.trans ((hb.out.alloc hb.out.size _).mono (by rw [HZ.out]; omega)))
      · have h64 : (ky : Int) ≤ 1000 := by assumption
        go_roundw
        case rel => exact ⟨k + 1, by omega, by go_num, Lib.hid (hb.out.alloc hb.out.size _)⟩
        case measure => simp [intOf]; omega
    · go_wp2_with fail
      go_ret
      exact HGO.out false (fun _ => by omega) _ (HW.out.trans (hb.out.mono (by rw [HZ.out]; omega)))
theorem great_any (m : Msgs.Msg) (A A1 A2 : Option Addr) (c c1 c2 B : Nat) (w : World) (h : MsgAt w B m A c A1 c1 A2 c2) (hB : B ≤ w.heap.size) :
    Calls Try.prog 13 #[msgV m A c A1 c1 A2 c2] w fun e w' => YesNo w w' e :=
  (great_any2 m A A1 A2 c c1 c2 B w h hB).mono fun e w' ⟨⟨v, hv, _⟩, hb⟩ => ⟨⟨v, hv⟩, hb⟩
/-! ### the document's examples -/
def exSend : Msgs.Msg := ⟨11, 0, 1, [], Txs.none⟩
def exPong : Msgs.Msg := ⟨4, 72057594037927943, 0, [], Txs.none⟩
def exVer : Msgs.Msg := ⟨2, 1, 0, [], Txs.none⟩
theorem plain_at (w : World) (B : Nat) (k : Int) (n c : Nat) (h1 : -9223372036854775808 ≤ k) (h2 : k ≤ 9223372036854775807) (h3 : n < 18446744073709551616) (h4 : c < 4294967296) : MsgAt w B ⟨k, n, c, [], Txs.none⟩ none 0 none 0 none 0 :=
  ⟨h1, h2, h3, h4, Nat.le_refl _, by simp [maxLen], fun i hi => by simp at hi, none_tx w B⟩
theorem put_send (w : World) : Calls Try.prog 14 #[.agg #[.int .i64 11, .int .u64 0, .int .u32 1, .slice none 0 0, .int .u32 0, .slice none 0 0, .slice none 0 0]] w fun e w' =>
    ∃ A c, e = .returned (.tuple #[.string ⟨#[115, 101, 110, 100, 115, 116, 101, 109]⟩, .slice A 1 c, .int .i64 0]) ∧ BytesAt w' w'.heap.size A [1] ∧ Below w.heap.size w w' :=
  (mput_any exSend none none none 0 0 0 0 w (plain_at w 0 11 0 1 (by decide) (by decide) (by decide) (by decide)) (Nat.zero_le _)).mono fun e w' ⟨v, he, ho, hb⟩ => by
    rw [show Msgs.put exSend = ([115, 101, 110, 100, 115, 116, 101, 109], [1], 0) by decide] at he ho
    obtain ⟨A, c, rfl, _, _, hat, _⟩ := OwnB.at_ ho
    exact ⟨A, c, he, hat, hb⟩
theorem put_ver (w : World) : Calls Try.prog 14 #[.agg #[.int .i64 2, .int .u64 1, .int .u32 0, .slice none 0 0, .int .u32 0, .slice none 0 0, .slice none 0 0]] w fun e w' =>
    ∃ v, e = .returned (.tuple #[.string ⟨#[]⟩, v, .int .i64 2]) ∧ Below w.heap.size w w' :=
  (mput_any exVer none none none 0 0 0 0 w (plain_at w 0 2 1 0 (by decide) (by decide) (by decide) (by decide)) (Nat.zero_le _)).mono fun e w' ⟨v, he, _, hb⟩ => by
    rw [show Msgs.put exVer = ([], [], 2) by decide] at he
    exact ⟨v, he, hb⟩
theorem bk_bytes8 {w : World} {g t : Nat} {bs : List UInt8} (h : Bk w g t (bytesArr bs)) : BytesAt w w.heap.size (some ⟨g, 0, none⟩) bs := by
  intro i hi
  refine ⟨g, 0, [byteV bs[i]], rfl, h.lt, rfl, fun j hj => ?_⟩
  obtain rfl : j = 0 := by simpa using hj
  rw [h.cell]
  simp [bytesArr, hi]
theorem get_ex (cmd : ByteArray) (bs : List UInt8) (cs : Array Value) (r : Msgs.Msg × Int) (hcs : cs = bytesArr bs) (hr : Msgs.get cmd.data.toList bs = r) (hn : bs.length ≤ 100) (W : World) (n : Nat) (hl : n = bs.length) :
    Calls Try.prog 10 #[.string cmd, .slice (some ⟨W.heap.size, 0, none⟩) n n] (W.alloc (.cells cs 5)) fun e w' => MsgOut (W.alloc (.cells cs 5)) w' r e := by
  subst hcs; subst hr; subst hl
  exact get_any cmd _ _ _ _ bs _ rfl (Nat.le_refl _) (by unfold maxLen; omega) (by omega) (bk_bytes8 (Bk.new _ _ _)) (Nat.le_refl _)
set_option maxHeartbeats 4000000 in
theorem alive_any (w : World) : Calls Try.prog 9 #[] w fun e w' => e = .returned (.bool true) ∧ Below w.heap.size w w' := by
  have HG1 := Lib.hid (get_ex ⟨#[105, 110, 118]⟩ [0] #[.int .u8 0] (Msgs.none, 9) rfl rfl (by decide))
  have HG2 := Lib.hid (get_ex ⟨#[118, 101, 114, 97, 99, 107]⟩ [1] #[.int .u8 1] (Msgs.none, 5) rfl rfl (by decide))
  have HG3 := Lib.hid (get_ex ⟨#[112, 111, 110, 103]⟩ [7, 0, 0, 0, 0, 0, 0, 1] #[.int .u8 7, .int .u8 0, .int .u8 0, .int .u8 0, .int .u8 0, .int .u8 0, .int .u8 0, .int .u8 1] (exPong, 0) rfl rfl (by decide))
  go_enter Try.func9, Try.ntmps9
  go_wp2_with fail
  refine (put_send w).mono ?_
  rintro e w1 ⟨A1, c1, rfl, hat1, hb1⟩
  have HB1 := Lib.hid hb1
  have HA1 := Lib.hid hat1
  clear hb1 hat1
  go_wp2_with fail
  refine (HG1.out w1 1 rfl).mono ?_
  rintro e w2 ⟨Aa, ca, Ab, cb, Ac, cc, rfl, hm2, hb2⟩
  have HB2 := Lib.hid (HB1.out.trans (((Joins.below_alloc1 w1 _).trans (hb2.mono (by simp))).mono HB1.out.size))
  have HA2 := Lib.hid (At.below HA1.out ((Joins.below_alloc1 w1 _).trans (hb2.mono (by simp))))
  have hz2 : w1.heap.size ≤ w2.heap.size := by have := hb2.size; simp at this; omega
  clear hb2 hm2 HA1 HG1
  unfold msgV
  simp only
  go_upto_region 3 with (fail)
  obtain ⟨w3, m3, hm3, _, _, hw3, hb3, hz3, _⟩ := msg_box w2 Msgs.none Aa Ab Ac ca cb cc
  rw [hm3] at hw3
  rw [← hw3]
  have HB3 := Lib.hid (HB2.out.trans (hb3.mono HB2.out.size))
  have HA3 := Lib.hid (At.below HA2.out (hb3.mono hz2))
  have hz3' : w2.heap.size ≤ w3.heap.size := by omega
  clear hw3 hm3 hb3 HA2 hz3
  go_wp2_with fail
  refine (HG2.out w3 1 rfl).mono ?_
  rintro e w4 ⟨Aa', ca', Ab', cb', Ac', cc', rfl, hm4, hb4⟩
  have hb34 := (Joins.below_alloc1 w3 (.cells #[.int .u8 1] 5)).trans (hb4.mono (by simp))
  have HB4 := Lib.hid (HB3.out.trans (hb34.mono HB3.out.size))
  have HA4 := Lib.hid (At.below HA3.out (hb34.mono (by omega)))
  have hz4 : w1.heap.size ≤ w4.heap.size := by have := hb34.size; omega
  clear hb34 hb4 hm4 HA3 HG2 hz3' hz2
  unfold msgV
  simp only
  go_upto_region 4 with (fail)
  obtain ⟨w5, m5, hm5, _, _, hw5, hb5, hz5, _⟩ := msg_box w4 Msgs.none Aa' Ab' Ac' ca' cb' cc'
  rw [hm5] at hw5
  rw [← hw5]
  have HB5 := Lib.hid (HB4.out.trans (hb5.mono HB4.out.size))
  have HA5 := Lib.hid (At.below HA4.out (hb5.mono hz4))
  have hz5' : w4.heap.size ≤ w5.heap.size := by omega
  clear hw5 hm5 hb5 HA4 hz5
  go_wp2_with fail
  refine (put_ver w5).mono ?_
  rintro e w6 ⟨v6, rfl, hb6⟩
  have HB6 := Lib.hid (HB5.out.trans (hb6.mono HB5.out.size))
  have HA6 := Lib.hid (At.below HA5.out (hb6.mono (by omega)))
  have hz6 : w1.heap.size ≤ w6.heap.size := by have := hb6.size; omega
  clear hb6 HA5 hz5' hz4
  go_wp2_with fail
  refine (HG3.out w6 8 rfl).mono ?_
  rintro e w7 ⟨Ad, cd, Ae, ce, Af, cf, rfl, hm7, hb7⟩
  have hb67 := (Joins.below_alloc1 w6 (.cells #[.int .u8 7, .int .u8 0, .int .u8 0, .int .u8 0, .int .u8 0, .int .u8 0, .int .u8 0, .int .u8 1] 5)).trans (hb7.mono (by simp))
  have HB7 := Lib.hid (HB6.out.trans (hb67.mono HB6.out.size))
  have HA7 := Lib.hid (At.below HA6.out (hb67.mono hz6))
  have hz7 : w1.heap.size ≤ w7.heap.size := by have := hb67.size; omega
  clear hb67 hb7 hm7 HA6 HG3 hz6
  unfold msgV
  simp only
  go_upto_region 6 with (fail)
  obtain ⟨w8, m8, hm8, _, _, hw8, hb8, hz8, hk8⟩ := msg_box w7 exPong Ad Ae Af cd ce cf
  have HK8 := Lib.hid hk8
  have HM8 := Lib.hid hm8
  rw [hm8] at hw8
  rw [← hw8]
  have HB8 := Lib.hid (HB7.out.trans (hb8.mono HB7.out.size))
  have HA8 := Lib.hid (At.below HA7.out (hb8.mono hz7))
  have hz8' : w1.heap.size ≤ w8.heap.size := by omega
  clear hw8 hm8 hb8 HA7 hk8 hz8
  go_wp2_with fail
  have hb89 := Joins.below_alloc1 w8 (.cells #[.int .u8 1] 5)
  refine (same_yes A1 (some ⟨w8.heap.size, 0, none⟩) 1 1 c1 1 [1] _ _ _ rfl rfl (by decide) (At.below HA8.out (hb89.mono hz8')) (bk_bytes8 (bs := [1]) (Bk.new _ _ _))).mono ?_
  rintro e w9 ⟨rfl, hb9⟩
  have hb89' := hb89.trans (hb9.mono (by simp))
  have hk9 := HK8.out.below hb89' HK8.out.lt
  have c0 : w9.cell? ⟨w7.heap.size, 0, none⟩ = some (.int .i64 4) := by rw [hk9.cell, HM8.out]; rfl
  have c1' : w9.cell? ⟨w7.heap.size, 1, none⟩ = some (.int .u64 72057594037927943) := by rw [hk9.cell, HM8.out]; rfl
  have HB9 := Lib.hid (HB8.out.trans (hb89'.mono HB8.out.size))
  clear hb89 hb9 hb89' hk9
  go_wp2_with fail
  go_ret
  exact ⟨rfl, HB9.out⟩
end Go.Proofs.Ytanjlgkbjcienaa.M8
