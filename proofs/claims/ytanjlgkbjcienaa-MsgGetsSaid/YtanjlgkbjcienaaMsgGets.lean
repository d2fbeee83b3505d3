/- What is read of any command and body is the document's. -/
import Derived.Test.YtanjlgkbjcienaaMsgRGet
namespace Go.Proofs.Ytanjlgkbjcienaa.M8
open Go.RowKit Go.Deep T7
set_option linter.unusedVariables false
set_option linter.unusedSimpArgs false
set_option maxRecDepth 100000
attribute [local go_sem ↓] Go.wp_at_zero Go.wp_at_succ

set_option maxHeartbeats 8000000 in
theorem msgGets_walk (w : World) (cmd : ByteArray) (A : Option Addr) (n c : Nat) (b : List UInt8) (hl : b.length = n) (hc : n ≤ c) (hm : c ≤ maxLen) (hat : BytesAt w w.heap.size A b) :
    Calls Try.prog 3 #[.string cmd, .slice A n c] w fun e w' => e = .returned (.bool true) ∧ Below w.heap.size w w' := by
  have HAT := Lib.hid hat
  by_cases h5 : 5000 < n
  · have h5' : (5000 : Int) < (n : Int) := by omega
    clear h5 hat hl hm
    go_enter Try.func3, Try.ntmps3
    go_wp2_with fail
    refine (alive_any w).mono ?_
    rintro e w2 ⟨rfl, hb2⟩
    have HB2 := Lib.hid hb2
    clear hb2
    go_wp2_with fail
    go_ret
    exact ⟨rfl, HB2.out⟩
  have h5' : ¬ (5000 : Int) < (n : Int) := by omega
  have HG := Lib.hid (fun W (hb : Below w.heap.size w W) => get_any cmd A n c _ b W hl hc hm (by omega) (At.below HAT.out hb) hb.size)
  have HR := Lib.hid (fun W (hb : Below w.heap.size w W) => rget_any cmd A n c _ b W hl hc hm (by omega) (At.below HAT.out hb) hb.size)
  generalize Msgs.get cmd.data.toList b = r at *
  obtain ⟨m, er⟩ := r
  clear hat hl hm
  go_enter Try.func3, Try.ntmps3
  go_wp2_with fail
  refine (alive_any w).mono ?_
  rintro e w2 ⟨rfl, hb2⟩
  have HB2 := Lib.hid hb2
  have hz2 := hb2.size
  clear hb2
  go_wp2_with fail
  refine (HG.out w2 HB2.out).mono ?_
  rintro e w3 ⟨A1, c1, A2, c2, A3, c3, rfl, hn3, hb3⟩
  simp only at hn3 ⊢
  have HB3 := Lib.hid (HB2.out.trans (hb3.mono HB2.out.size))
  have HN3 := Lib.hid hn3
  have hz3 := HB3.out.size
  clear hb3 hn3 HG
  unfold msgV
  go_upto_region 6 with (fail)
  obtain ⟨w4, ms, hms, hv, hms7, hw4, hb4, hz4, hk4⟩ := msg_box w3 m A1 A2 A3 c1 c2 c3
  rw [hms] at hw4
  rw [← hw4]
  have HB4 := Lib.hid (HB3.out.trans (hb4.mono HB3.out.size))
  have HK4 := Lib.hid hk4
  have HV := Lib.hid hv
  have HM7 := Lib.hid hms7
  have HT4 := Lib.hid ((HN3.out.below hb4).mono hb4.size)
  have hz4' : w3.heap.size + 1 ≤ w4.heap.size := by omega
  clear hw4 hb4 hk4 hms hv hms7 hz4
  go_wp2_with fail
  refine (HR.out w4 HB4.out).mono ?_
  rintro e w5 ⟨B1, d1, B2, d2, B3, d3, rfl, hn5, hb5⟩
  simp only at hn5 ⊢
  have HB5 := Lib.hid (HB4.out.trans (hb5.mono HB4.out.size))
  have HN5 := Lib.hid hn5
  have HK5 := Lib.hid (HK4.out.below hb5 (by omega))
  have HT5 := Lib.hid ((HT4.out.below hb5).mono hb5.size)
  have hz5 := hb5.size
  clear hb5 hn5 HR HK4 HT4
  unfold msgV
  go_upto_region 7 with (fail)
  obtain ⟨w6, mr, hmr, hvr, hmr7, hw6, hb6, hz6, hk6⟩ := msg_box w5 m B1 B2 B3 d1 d2 d3
  rw [hmr] at hw6
  rw [← hw6]
  have HB6 := Lib.hid (HB5.out.trans (hb6.mono HB5.out.size))
  have HK6 := Lib.hid (HK5.out.below hb6 (by omega))
  have HL6 := Lib.hid hk6
  have HVR := Lib.hid hvr
  have HR7 := Lib.hid hmr7
  have HT6 := Lib.hid ((HT5.out.below hb6).mono hb6.size)
  have HU6 := Lib.hid ((HN5.out.below hb6).mono hb6.size)
  have hz6' : w5.heap.size + 1 ≤ w6.heap.size := by omega
  clear hw6 hb6 hk6 hmr hvr hmr7 hz6
  have HS := Lib.hid (rsame_self8 m A1 A2 A3 B1 B2 B3 c1 c2 c3 d1 d2 d3 w6.heap.size w6.heap.size w6 HT6.out HU6.out (Nat.le_refl _) (Nat.le_refl _))
  rw [HV.out, HVR.out] at HS
  have hee : (er == er) = true := beq_self_eq_true _
  go_wp2_with (first | (refine wpList_load_row_g (by rfl) 32 (.tmp 5) rfl w3.heap.size (by rfl) 32 ms (0, 0) _ HK6.out Try.underlying32 rfl (by rw [HM7.out]; exact size_msg) ?_) | (refine wpList_load_row_g (by rfl) 32 (.tmp 7) rfl w5.heap.size (by rfl) 32 mr (0, 0) _ HL6.out Try.underlying32 rfl (by rw [HR7.out]; exact size_msg) ?_))
  refine HS.out.mono ?_
  rintro e w7 ⟨rfl, hb7⟩
  have HB7 := Lib.hid (HB6.out.trans (hb7.mono HB6.out.size))
  clear hb7
  go_wp2_with fail
  go_ret
  exact ⟨rfl, HB7.out⟩
end Go.Proofs.Ytanjlgkbjcienaa.M8
