/- Whatever is read, put again it is the same. -/
import Derived.Test.YtanjlgkbjcienaaMsgAlive
namespace Go.Proofs.Ytanjlgkbjcienaa.M8
open Go.RowKit Go.Deep T7
set_option linter.unusedVariables false
set_option linter.unusedSimpArgs false
set_option maxRecDepth 100000
attribute [local go_sem ↓] Go.wp_at_zero Go.wp_at_succ

theorem str_back (s : ByteArray) : (⟨s.data.toList.toArray⟩ : ByteArray) = s := by
  cases s
  simp
set_option maxHeartbeats 8000000 in
theorem msgOne_walk (w : World) (cmd : ByteArray) (A : Option Addr) (n c : Nat) (b : List UInt8) (hl : b.length = n) (hc : n ≤ c) (hm : c ≤ maxLen) (hat : BytesAt w w.heap.size A b) :
    Calls Try.prog 5 #[.string cmd, .slice A n c] w fun e w' => e = .returned (.bool true) ∧ Below w.heap.size w w' := by
  have HAT := Lib.hid hat
  have HL := Lib.hid hl
  have HMX := Lib.hid hm
  by_cases h5 : 5000 < n
  · have h5' : (5000 : Int) < (n : Int) := by omega
    clear h5 hat hl hm
    go_enter Try.func5, Try.ntmps5
    go_wp2_with fail
    refine (alive_any w).mono ?_
    rintro e w2 ⟨rfl, hb2⟩
    have HB2 := Lib.hid hb2
    clear hb2
    go_wp2_with fail
    go_ret
    exact ⟨rfl, HB2.out⟩
  have h5' : ¬ (5000 : Int) < (n : Int) := by omega
  have HG := Lib.hid (fun W (hb : Below w.heap.size w W) => get_any cmd A n c _ b W hl hc hm (by omega) (At.below HAT.out hb) hb.size)
  have HOKG := Lib.hid (fun h => Msgs.get_ok (cmd := cmd.data.toList) (b := b) h)
  have HBAD := Lib.hid (fun h => Msgs.get_bad (cmd := cmd.data.toList) (b := b) h)
  generalize Msgs.get cmd.data.toList b = r at *
  obtain ⟨m, er⟩ := r
  simp only at HOKG HBAD
  clear hat hl hm
  go_enter Try.func5, Try.ntmps5
  go_wp2_with fail
  refine (alive_any w).mono ?_
  rintro e w2 ⟨rfl, hb2⟩
  have HB2 := Lib.hid hb2
  have hz2 := hb2.size
  clear hb2
  go_wp2_with fail
  refine (HG.out w2 HB2.out).mono ?_
  rintro e w3 ⟨A1, c1, A2, c2, A3, c3, rfl, hn3, hb3⟩
  simp only at hn3 ⊢
  have HB3 := Lib.hid (HB2.out.trans (hb3.mono HB2.out.size))
  have HN3 := Lib.hid hn3
  have hz3 := HB3.out.size
  clear hb3 hn3 HG
  unfold msgV
  go_upto_region 6 with (fail)
  obtain ⟨w4, ms, hms, hv, hms7, hw4, hb4, hz4, hk4⟩ := msg_box w3 m A1 A2 A3 c1 c2 c3
  rw [hms] at hw4
  rw [← hw4]
  have HB4 := Lib.hid (HB3.out.trans (hb4.mono HB3.out.size))
  have HK4 := Lib.hid hk4
  have HMS := Lib.hid hms
  have HV := Lib.hid hv
  have HM7 := Lib.hid hms7
  have HT4 := Lib.hid ((HN3.out.below hb4).mono hb4.size)
  have hz4' := hb4.size
  clear hw4 hb4 hk4 hms hv hms7 hz4
  by_cases he : er = 0
  · subst he
    obtain ⟨hok, hput⟩ := HOKG.out rfl
    have HPU := Lib.hid (mput_any m A1 A2 A3 c1 c2 c3 _ w4 HT4.out (Nat.le_refl _))
    rw [hput, HV.out] at HPU
    have HPP := Lib.hid HPU.out
    clear hok hput HOKG HBAD HPU
    go_wp2_with (refine wpList_load_row rfl 32 (.tmp 5) rfl w3.heap.size (by rfl) 32 ms (0, 0) _ HK4.out Try.underlying32 rfl (by rw [HM7.out]; exact size_msg) ?_)
    refine HPP.out.mono ?_
    rintro e w5 ⟨v5, rfl, ho5, hb5⟩
    simp only at ho5 ⊢
    rw [str_back]
    obtain ⟨A5, c5, rfl, hc5, hm5, hat5, _⟩ := ho5.at_
    have HB5 := Lib.hid (HB4.out.trans (hb5.mono HB4.out.size))
    have HS := Lib.hid (same_yes A5 A b.length n c5 c b w5 _ _ rfl HL.out (by rw [HL.out]; omega) hat5 (At.below HAT.out HB5.out))
    rw [HL.out] at HS ⊢
    clear ho5 hb5 hat5 HPP hc5 hm5
    have hbe : (cmd.toList == cmd.toList) = true := beq_self_eq_true _
    go_wp2_with fail
    refine HS.out.mono ?_
    rintro e w6 ⟨rfl, hb6⟩
    have HB6 := Lib.hid (HB5.out.trans (hb6.mono HB5.out.size))
    clear hb6
    go_wp2_with fail
    go_ret
    exact ⟨rfl, HB6.out⟩
  · have hmz := HBAD.out he
    subst hmz
    have k0 : w4.cell? ⟨w3.heap.size, 0, none⟩ = some (.int .i64 0) := by rw [HK4.out.cell, HMS.out]; rfl
    have e1 : (er != 0) = true := by rw [bne_iff_ne]; exact he
    clear he HOKG HBAD
    go_wp2_with fail
    go_ret
    exact ⟨rfl, HB4.out⟩
end Go.Proofs.Ytanjlgkbjcienaa.M8
