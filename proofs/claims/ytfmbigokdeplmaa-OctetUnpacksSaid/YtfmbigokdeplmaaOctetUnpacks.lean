/- OctetUnpacks: the law's own walk. -/
import Derived.Test.YtfmbigokdeplmaaOctetUnpack
import Derived.Test.YtfmbigokdeplmaaOctetAll
import Derived.Test.YtfmbigokdeplmaaOctetPlain2
namespace Go.Proofs.Ytfmbigokdeplmaa
open Go.RowKit Go.Deep
set_option linter.unusedVariables false
set_option maxRecDepth 100000
attribute [local go_sem ↓] Go.wp_at_zero Go.wp_at_succ

theorem u8_byte {a : Int} (h : (Lit.int .u8 a).wf = true) : ∃ c : UInt8, Value.int .u8 a = byteV c := by
  have := h
  simp [Lit.wf, IntKind.min, IntKind.max, IntKind.signed, IntKind.bits] at this
  refine ⟨UInt8.ofNat a.toNat, ?_⟩
  unfold byteV
  rw [UInt8.toNat_ofNat']
  congr 1
  omega
set_option maxHeartbeats 1000000 in
theorem octetUnpacks_walk (w : World) (A : Option Addr) (n c : Nat) (ls : List (List UInt8)) (hl : ls.length = n) (hc : n ≤ c) (hm : c ≤ maxLen) (hat : PartsAt w w.heap.size A ls) (a : Int) (ha : (Lit.int .u8 a).wf = true) :
    Calls Try.prog 9 #[.slice A n c, .int .u8 a] w fun r w' => r = .returned (.bool true) ∧ Below w.heap.size w w' := by
  subst hl
  obtain ⟨x, hx⟩ := u8_byte ha
  have HX := Lib.hid hx
  clear hx ha
  obtain ⟨i0, hi, hz0, hz1, hz2⟩ := info_parts byte_info
  have Hi := Lib.hid hi
  have Hz := Lib.hid hz0
  have Hz1 := Lib.hid hz1
  have Hz2 := Lib.hid hz2
  clear hi hz0 hz1 hz2
  go_enter Try.func9, Try.ntmps9
  go_wp2_with fail
  refine (alive_any _).mono ?_
  rintro r w1 ⟨rfl, hb1⟩
  go_wp2_with fail
  refine (heavy_any A _ c _ ls _ rfl (hat.below hb1)).mono ?_
  rintro r w2 (⟨rfl, rfl, h1000, htot⟩ | ⟨rfl, rfl⟩)
  · have hn64 : ls.length < 18446744073709551616 := by omega
    have hp64 : ∀ p ∈ ls, p.length < 18446744073709551616 := fun p hp => by have := tot_mem hp; omega
    have hplen : (Oct.pack ls).length ≤ 110000 := by have := pack_tot ls; omega
    have hppos := Oct.pack_pos ls
    have H1 := Lib.hid (Oct.unpack_pack ls hn64 hp64)
    have H2 := Lib.hid (Oct.unpack_more ls x hn64 hp64)
    have H3 := Lib.hid (Oct.unpack_cut ls hn64 hp64)
    have H4 := Lib.hid (Oct.unpack_fewer ls hn64)
    have hroom : (Oct.pack ls).length ≤ 140737488355328 := by omega
    clear hn64 hp64
    go_wp2_with fail
    refine (opack_any A _ c _ ls _ rfl hb1.size hroom (hat.below hb1)).mono ?_
    rintro r w2 ⟨v2, rfl, hv2, hb2⟩
    generalize Oct.pack ls = b at *
    obtain ⟨A2, c2, rfl, hc2, hm2, hat2, _⟩ := hv2.at_
    have b2 := hb1.trans (hb2.mono hb1.size)
    clear hv2 hroom
    go_wp2_with fail
    refine (ounpack_any A2 _ c2 b (ls.length : Int) _ rfl (by omega) hc2 hm2 (by omega) hat2).mono ?_
    rw [H1.out]
    rintro r w3 ⟨A3, c3, rfl, hc3, hm3, hat3, hb3⟩
    have b3 := b2.trans (hb3.mono b2.size)
    have hat23 := At.mono (At.below hat2 hb3) hb3.size
    have hc3' : ls.length ≤ c3 := hc3
    have hat3' : PartsAt w3 w3.heap.size A3 ls := hat3
    clear hc3 hat3
    have hown : OwnB (w3.alloc (.cells #[] 5)) w3.heap.size (.slice (some ⟨w3.heap.size, 0, none⟩) 0 0) [] := Bk.own (bs := []) (Bk.new _ _ _) (Nat.le_refl _) (by simp [maxLen])
    have hsrc := BytesAt.src (At.below hat23 (Joins.below_alloc1 w3 (.cells #[] 5)))
    go_wp2_with (first
      | (at_builtin; refine wpList_app _ rfl (.tmp 28) (.tmp 29) _ rfl w3.heap.size 5 i0 _ 1 1 Try.underlying23 Hi.out Hz.out Hz1.out Hz2.out rfl (by decide) (.slice (some ⟨w3.heap.size, 0, none⟩) 0 0) 0 [] rfl hown A2 b.length c2 (b.map byteV) rfl (by rw [List.length_map, Nat.mul_one]) hsrc (oneCell_bytes _) (by unfold maxLen; omega) (by omega) (by simp) ?_; intro v4 w4 hrow4 hg4 hat4)
      | (at_builtin; refine wpList_app _ rfl (.tmp 30) (.tmp 32) _ rfl w3.heap.size 5 i0 _ 1 1 Try.underlying23 Hi.out Hz.out Hz1.out Hz2.out rfl (by decide) v4 (0 + b.length) _ rfl (hrow4.alloc _) (some ⟨w4.heap.size, 0, none⟩) 1 1 [.int .u8 a] rfl rfl (Src.at_ _ _ _ _ _ (by simp) rfl) (by simp [Value.oneCell']) (by unfold maxLen; omega) (by omega) (by have := hg4.size; simp at this; simp; omega) ?_; intro v5 w5 hrow5 hg5 hat5))
    have hrow5' : OwnB w5 w3.heap.size v5 (b ++ [x]) := by
      unfold OwnB
      rw [List.length_append, List.map_append]
      rw [HX.out] at hrow5
      simpa using hrow5
    have s4 := hg4.size
    have b34 : Below w3.heap.size w3 w4 := (Joins.below_alloc1 _ _).trans (hg4.below_of_own hown (Nat.le_refl _) (by simp))
    have b35 : Below w3.heap.size w3 w5 := (b34.alloc b34.size _).trans (hg5.below_of_own (hrow4.alloc _) (Nat.le_refl _) (by have := b34.size; simp; omega))
    obtain ⟨A5, c5, rfl, hc5, hm5, hat5', _⟩ := hrow5'.at_
    have b5 := b3.trans (b35.mono b3.size)
    clear hown hsrc hrow4 hg4 hat4 hrow5 hg5 hat5 hrow5' b34 s4
    have hlx : (b ++ [x]).length ≤ 1000000 := by rw [List.length_append, List.length_singleton]; omega
    have HLX := Lib.hid hlx
    clear hlx
    refine (ounpack_any A5 _ c5 (b ++ [x]) (ls.length : Int) _ rfl HLX.out hc5 hm5 (by omega) hat5').mono ?_
    rw [H2.out]
    rintro r w6 ⟨A6, c6, rfl, _, _, _, hb6⟩
    have b36 : Below w3.heap.size w3 w6 := b35.trans (hb6.mono b35.size)
    have b6 := b3.trans (b36.mono b3.size)
    have hat36 := PartsAt.mono (hat3'.below b36) b36.size
    have hat26 := At.mono (At.below hat23 b36) b36.size
    clear hat3' hat23 hb6 hat5' hat2 b5 b35
    unfold maxLen at hm3
    have hbne : (((b.length : Nat) : Int) == 0) = false := by rw [beq_eq_false_iff_ne]; omega
    go_wp2_with fail
    refine (sameAll_yes A3 A _ _ c3 c _ _ ls _ rfl rfl (by omega) (Nat.le_refl _) b6.size hat36 (hat.below b6)).mono ?_
    rintro r w7 ⟨rfl, hb7⟩
    have b7 := b6.trans (hb7.mono b6.size)
    have hat27 := At.mono (At.below hat26 hb7) hb7.size
    have i1 : (0 : Int) ≤ (b.length : Int) - 1 := by omega
    have i2 : (b.length : Int) - 1 ≤ (c2 : Int) := by omega
    clear hat36 hat26
    go_wp2_with fail
    have hcutl : (b.take (b.length - 1)).length = b.length - 1 := by rw [List.length_take]; omega
    have HC := Lib.hid hcutl
    clear hcutl
    refine (ounpack_any A2 _ c2 (b.take (b.length - 1)) (ls.length : Int) _ HC.out (by omega) (by omega) hm2 (by omega) (BytesAt.take hat27 _)).mono ?_
    rw [H3.out]
    rintro r w8 ⟨A8, c8, rfl, _, _, _, hb8⟩
    have b8 := b7.trans (hb8.mono b7.size)
    have hat28 := At.mono (At.below hat27 hb8) hb8.size
    clear hat27
    go_wp2_with fail
    refine (ounpack_any A2 _ c2 b ((ls.length : Int) - 1) _ rfl (by omega) (by omega) hm2 (by omega) hat28).mono ?_
    rw [H4.out]
    rintro r w9 ⟨A9, c9, rfl, _, _, _, hb9⟩
    have b9 := b8.trans (hb9.mono b8.size)
    go_wp2
    go_ret
    exact ⟨rfl, b9⟩
  · clear hat
    go_wp2
    go_ret
    exact ⟨rfl, hb1⟩
end Go.Proofs.Ytfmbigokdeplmaa
