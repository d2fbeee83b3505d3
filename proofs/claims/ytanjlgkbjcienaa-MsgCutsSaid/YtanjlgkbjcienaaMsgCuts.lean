/- A body that is cut off, or with a byte behind it. -/
import Derived.Test.YtanjlgkbjcienaaMsgAlive
namespace Go.Proofs.Ytanjlgkbjcienaa.M8
open Go.RowKit Go.Deep T7
set_option linter.unusedVariables false
set_option linter.unusedSimpArgs false
set_option maxRecDepth 100000
attribute [local go_sem ↓] Go.wp_at_zero Go.wp_at_succ

theorem put_len {m : Msgs.Msg} (hk : m.Ok) {c b : List UInt8} (h : Msgs.put m = (c, b, 0)) : b.length ≤ 2000 := by
  obtain ⟨f, hc, hd⟩ := Msgs.put_iff.1 h
  clear h
  rcases hd with ⟨ht, hf, hb⟩ | ⟨ht, hb⟩
  · rw [hb]; exact Txs.bytes_small hk.tx hf
  · rw [hb]
    by_cases hq : (Msgs.shp m.kind).count = true
    · obtain ⟨h1, h2, h3, h4⟩ := Msgs.body_count hk f hq
      rw [h4, List.length_append, h3, Oct.var_length]
      have := Oct.size_pos m.ids.length
      omega
    · have hq : (Msgs.shp m.kind).count = false := by simpa using hq
      obtain ⟨h1, h2, h3, h4⟩ := Msgs.body_plain hk f hq
      have hfa := Msgs.facts m.kind
      have h5 := hfa.ids hq
      have h6 := hfa.code
      have h7 := hfa.n
      rw [h4]; unfold Msgs.sizeOf
      omega
theorem empty_own (w : World) : OwnB (w.alloc (.cells #[] 5)) w.heap.size (.slice (some ⟨w.heap.size, 0, none⟩) 0 0) [] := Bk.own (bs := []) (Bk.new _ _ _) (Nat.le_refl _) (by simp [maxLen])
theorem own_low8 {w w' : World} {B base : Nat} {e : TypeId} {size : Nat} {v : Value} {n : Nat} {xs : List Value} (hg : w.grownBy w' v.ownBlock) (h : w.ownsRow base e size v n xs) (hB : B ≤ base) (hs : B ≤ w.heap.size) : Below B w w' :=
  ⟨hg.os, hg.tape, hg.output, hg.size, fun i hi => hg.block i (by omega) (fun e => by have := (h.lt i e.symm).1; omega)⟩
theorem data_of (c : List UInt8) : (⟨c.toArray⟩ : ByteArray).data.toList = c := by simp
set_option maxHeartbeats 8000000 in
theorem msgCuts_walk (w : World) (m : Msgs.Msg) (A : Option Addr) (c : Nat) (A1 : Option Addr) (c1 : Nat) (A2 : Option Addr) (c2 : Nat) (h : MsgAt w w.heap.size m A c A1 c1 A2 c2) (a : Int) (ha : (Lit.int .u16 a).wf = true) (x : Int) (hx : (Lit.int .u8 x).wf = true) :
    Calls Try.prog 4 #[msgV m A c A1 c1 A2 c2, .int .u16 a, .int .u8 x] w fun e w' => e = .returned (.bool true) ∧ Below w.heap.size w w' := by
  obtain ⟨ha0, ha1⟩ := wf_u16 ha
  obtain ⟨xb, hxb⟩ := byte_of hx
  subst hxb
  clear ha hx
  obtain ⟨i0, hi, hz0, hz1, hz2⟩ := info_parts byte_info
  have Hi := Lib.hid hi
  have Hz := Lib.hid hz0
  have Hz1 := Lib.hid hz1
  have Hz2 := Lib.hid hz2
  clear hi hz0 hz1 hz2
  obtain ⟨w1, ms, hms, hv, hms7, hw1, hb1, hz1, hk1⟩ := msg_box w m A A1 A2 c c1 c2
  have HB1 := Lib.hid hb1
  have HZ1 := Lib.hid hz1
  have HK1 := Lib.hid hk1
  have HM7 := Lib.hid hms7
  have HMS := Lib.hid hms
  have HV := Lib.hid hv
  have HT := Lib.hid h
  have HGR := Lib.hid (fun W (hb : Below w.heap.size w W) => great_any m A A1 A2 c c1 c2 _ W (h.below hb) hb.size)
  have HPU := Lib.hid (fun W (hb : Below w.heap.size w W) => mput_any m A A1 A2 c c1 c2 _ W (h.below hb) hb.size)
  have HOK := Lib.hid h.ok
  rw [hv] at HGR HPU ⊢
  obtain ⟨q, hq⟩ : ∃ q, q = Msgs.put m := ⟨_, rfl⟩
  rw [← hq] at HPU
  have HQ := Lib.hid hq
  clear hq
  clear hb1 hz1 hk1 hms7 hms hv h
  go_enter Try.func4, Try.ntmps4
  go_upto_region 1 with (fail)
  rw [← hw1]
  clear hw1
  go_wp2_with fail
  refine (alive_any w1).mono ?_
  rintro e w2 ⟨rfl, hb2⟩
  have HB2 := Lib.hid (HB1.out.trans (hb2.mono HB1.out.size))
  have HK2 := Lib.hid (HK1.out.below hb2 HK1.out.lt)
  have hz2 : w.heap.size + 1 ≤ w2.heap.size := by rw [← HZ1.out]; exact hb2.size
  clear hb2
  go_wp2_with (refine wpList_load_row rfl 32 (.tmp 3) rfl w.heap.size (by rfl) 32 ms (0, 0) _ HK2.out Try.underlying32 rfl (by rw [HM7.out]; exact size_msg) ?_)
  refine (HGR.out w2 HB2.out).mono ?_
  rintro e w3 ⟨⟨v3, rfl⟩, hb3⟩
  have HB3 := Lib.hid (HB2.out.trans (hb3.mono HB2.out.size))
  have HK3 := Lib.hid (HK2.out.below hb3 (by omega))
  have hz3 : w.heap.size + 1 ≤ w3.heap.size := by have := hb3.size; omega
  clear hb3 HGR
  cases v3 with
  | true =>
    go_wp2_with fail
    go_ret
    exact ⟨rfl, HB3.out⟩
  | false =>
    go_wp2_with (refine wpList_load_row rfl 32 (.tmp 3) rfl w.heap.size (by rfl) 32 ms (0, 0) _ HK3.out Try.underlying32 rfl (by rw [HM7.out]; exact size_msg) ?_)
    refine (HPU.out w3 HB3.out).mono ?_
    rintro e w4 ⟨v4, rfl, ho4, hb4⟩
    obtain ⟨cm, bd, er⟩ := q
    obtain ⟨A4, c4, rfl, hc4, hm4, hat4, _⟩ := ho4.at_
    simp only at hc4 hat4 ⊢
    have HB4 := Lib.hid (HB3.out.trans (hb4.mono HB3.out.size))
    have HK4 := Lib.hid (HK3.out.below hb4 (by omega))
    have HA4 := Lib.hid hat4
    have hz4 := hb4.size
    clear hb4 ho4 hat4 HPU HB2 HK2 HB3 HK3
    by_cases he : er = 0
    · subst he
      have HLN := Lib.hid (put_len HOK.out HQ.out.symm)
      have HGM := Lib.hid (Msgs.get_more HOK.out HQ.out.symm xb)
      have HGC := Lib.hid (fun i (hi : i < bd.length) => Msgs.get_cut HOK.out HQ.out.symm hi)
      have HGE := Lib.hid (fun h0 : bd.length = 0 => Msgs.put_empty HOK.out HQ.out.symm h0)
      obtain ⟨n, hn⟩ : ∃ n, n = bd.length := ⟨_, rfl⟩
      have hn2 : n ≤ 2000 := by rw [hn]; exact HLN.out
      rw [← hn] at HGC HGE hc4 ⊢
      have HN := Lib.hid hn
      have HO := Lib.hid (empty_own w4)
      have HS4 := Lib.hid (BytesAt.src (At.below HA4.out (Joins.below_alloc1 w4 (.cells #[] 5))))
      unfold maxLen at hm4
      clear hn
      go_wp2_with (first
        | (at_builtin; refine wpList_app _ rfl (.tmp 28) (.tmp 29) _ rfl w4.heap.size 5 i0 _ 1 1 Try.underlying22 Hi.out Hz.out Hz1.out Hz2.out rfl (by decide) (.slice (some ⟨w4.heap.size, 0, none⟩) 0 0) 0 [] rfl HO.out A4 n c4 (bd.map byteV) rfl (by rw [List.length_map, HN.out, Nat.mul_one]) HS4.out (oneCell_bytes _) (by unfold maxLen; omega) (by omega) (by simp) ?_; intro v5 w5 hrow5 hg5 hat5; have b45 : Below w4.heap.size w4 w5 := (Joins.below_alloc1 w4 (.cells #[] 5)).trans (own_low8 hg5 HO.out (Nat.le_refl _) (by simp)); have b45s : w4.heap.size ≤ w5.heap.size := b45.size; have hsrc5 : True := trivial)
        | (at_builtin; refine wpList_app _ rfl (.tmp 30) (.tmp 32) _ rfl w4.heap.size 5 i0 _ 1 1 Try.underlying22 Hi.out Hz.out Hz1.out Hz2.out rfl (by decide) v5 (0 + n) _ rfl (own_below hrow5 (Joins.below_alloc1 w5 _)) (some ⟨w5.heap.size, 0, none⟩) 1 1 [.int .u8 (xb.toNat : Int)] rfl rfl (Src.one _ _ _) (fun u hu => by rw [List.mem_singleton.1 hu]; rfl) (by unfold maxLen; omega) (by omega) (by simp; omega) ?_; intro v6 w6 hrow6 hg6 hat6))
      have b46 : Below w4.heap.size w4 w6 := (b45.alloc b45s _).trans (own_low8 hg6 (own_below hrow5 (Joins.below_alloc1 w5 _)) (Nat.le_refl _) (by simp; omega))
      have hrow6' : OwnB w6 w4.heap.size v6 (bd ++ [xb]) := by
        unfold OwnB
        rw [List.length_append, List.map_append, ← HN.out]
        simpa [byteV] using hrow6
      obtain ⟨A6, c6, rfl, hc6, hm6, hat6', _⟩ := hrow6'.at_
      have HB6 := Lib.hid (HB4.out.trans (b46.mono HB4.out.size))
      have HB46 := Lib.hid b46
      have hl6 : (bd ++ [xb]).length ≤ 140737488351232 := by rw [List.length_append, ← HN.out]; simp; omega
      have hG := get_any ⟨cm.toArray⟩ A6 _ c6 _ (bd ++ [xb]) w6 rfl hc6 hm6 hl6 hat6' (Nat.le_refl _)
      rw [data_of, HGM.out] at hG
      have HGG := Lib.hid hG
      have hz6 := b46.size
      clear hG hrow5 hg5 hat5 hrow6 hg6 hat6 hrow6' hat6' b45 b45s hsrc5 b46 HO HS4
      refine HGG.out.mono ?_
      rintro e w7 ⟨A7, c7, A7', c7', A7'', c7'', rfl, hn7, hb7⟩
      have HB7 := Lib.hid (HB6.out.trans (hb7.mono HB6.out.size))
      have hz7 := hb7.size
      have HB47 := Lib.hid (HB46.out.trans (hb7.mono HB46.out.size))
      clear hb7 hn7 HGG
      unfold msgV
      simp only
      go_upto_region 9 with (fail)
      obtain ⟨w8, m8, hm8, _, hm87, hw8, hb8, hz8, hk8⟩ := msg_box w7 Msgs.none A7 A7' A7'' c7 c7' c7''
      have k0 : w8.cell? ⟨w7.heap.size, 0, none⟩ = some (.int .i64 0) := by rw [hk8.cell, hm8]; rfl
      rw [hm8] at hw8
      rw [← hw8]
      have HB8 := Lib.hid (HB7.out.trans (hb8.mono HB7.out.size))
      have HB48 := Lib.hid (HB47.out.trans (hb8.mono HB47.out.size))
      have hz8' : w7.heap.size ≤ w8.heap.size := by omega
      clear hm8 hw8 hb8 hk8 hm87 hz8
      rcases Nat.eq_zero_or_pos n with hn0 | hn0
      · have hk2 := HGE.out hn0
        have HK8 := Lib.hid (HK4.out.below HB48.out (by omega))
        have m0 : w8.cell? ⟨w.heap.size, 0, none⟩ = some (.int .i64 2) := by rw [HK8.out.cell, HMS.out, hk2]; rfl
        subst hn0
        clear hk2
        go_wp2_with fail
        go_ret
        exact ⟨rfl, HB8.out⟩
      · have hnp : (0 : Int) < (n : Int) := by omega
        have hne : ((n : Int) == 0) = false := by rw [beq_eq_false_iff_ne]; omega
        obtain ⟨qb, off, rfl, _, _⟩ := HA4.out.cell (i := 0) (by rw [← HN.out]; omega)
        obtain ⟨k, hk⟩ : ∃ k : Nat, a % (n : Int) = (k : Int) := ⟨(a % (n : Int)).toNat, by rw [Int.toNat_of_nonneg (Int.emod_nonneg _ (by omega))]⟩
        have hkn : k < n := by have := Int.emod_lt_of_pos a (show (0 : Int) < (n : Int) by omega); omega
        have hrem : (a : Int).tmod (n : Int) = (k : Int) := by rw [IntWalk.rem_in _ _ ha0, hk]
        have hn0' : (n : Int) ≠ 0 := by omega
        have hkc : (k : Int) ≤ (c4 : Int) := by omega
        have hkc2 : k ≤ c4 := by omega
        have hl : (bd.take k).length = k := by rw [List.length_take, ← HN.out]; omega
        have hgz := get_any ⟨cm.toArray⟩ (some ⟨qb, off, none⟩) k c4 w4.heap.size (bd.take k) w8 hl hkc2 (by unfold maxLen; omega) (by omega) (At.below (BytesAt.take HA4.out k) HB48.out) (by omega)
        rw [data_of] at hgz
        have hgc := HGC.out k hkn
        generalize Msgs.get cm (bd.take k) = r at hgz hgc
        obtain ⟨mr, er⟩ := r
        simp only at hgc
        subst hgc
        have HGZ := Lib.hid hgz
        clear hgz hl hkn
        go_wp2_with fail
        refine HGZ.out.mono ?_
        rintro e w9 ⟨A9, c9, A9', c9', A9'', c9'', rfl, hn9, hb9⟩
        have HB9 := Lib.hid (HB8.out.trans (hb9.mono HB8.out.size))
        clear hb9 hn9 HGZ
        unfold msgV
        simp only
        go_wp2_with fail
        go_ret
        exact ⟨rfl, HB9.out.alloc HB9.out.size _⟩
    · have e1 : (er != 0) = true := by rw [bne_iff_ne]; exact he
      clear he
      go_wp2_with fail
      go_ret
      exact ⟨rfl, HB4.out⟩
end Go.Proofs.Ytanjlgkbjcienaa.M8
