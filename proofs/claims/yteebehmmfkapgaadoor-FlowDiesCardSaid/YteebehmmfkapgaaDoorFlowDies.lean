/- FlowDies: the walk. -/
import Derived.Test.YteebehmmfkapgaaDoorFlowKeeps
namespace Go.Proofs.YteebehmmfkapgaaDoor
open Go.RowKit Go.Deep Go.ChangeShapes Go.WideShapes Go.ChangeAt
set_option linter.unusedVariables false
set_option linter.unusedSimpArgs false
set_option maxRecDepth 100000
attribute [local go_sem ↓] Go.wp_at_zero Go.wp_at_succ

theorem bytes_of_cells : ∀ (hs : List Value), (∀ i, i < hs.length → ∃ b : UInt8, (hs.drop i).take 1 = [byteV b]) → ∃ l : List UInt8, hs = l.map byteV
  | [], _ => ⟨[], rfl⟩
  | v :: hs, h => by
    obtain ⟨b, hb⟩ := h 0 (by simp)
    obtain ⟨l, hl⟩ := bytes_of_cells hs fun i hi => by simpa using h (i + 1) (by simpa using hi)
    refine ⟨b :: l, ?_⟩
    simp only [List.drop_zero, List.take_succ_cons, List.take_zero, List.cons.injEq, and_true] at hb
    rw [hl, hb]; rfl
theorem bad_open {H : Type} {enc : TypeId × Value → H} {W : World} {v : Value} {d : DataW H} {p : List MemPlace} (hv : Value.okWide Tryd.prog W .any 0 54 v) (h : DataW.Trod enc Tryd.prog W 0 (fun _ => true) true 54 v d p) : ∃ l : List UInt8, v = .agg (bytesArr l) ∧ l.length = 24 := by
  unfold Value.okWide at hv
  rw [Tryd.underlying54] at hv
  obtain ⟨cs, rfl, hsz, _⟩ := hv
  obtain ⟨fuel, hf⟩ := h
  obtain ⟨xs, m, _, _, hl, hx, hi⟩ := DataW.trod_array Tryd.underlying54 hf
  have h1 : Tryd.prog.cellsOf 5 = 1 := by kernel_rfl
  have h24 : Tryd.prog.cellsOf 54 = 24 := by kernel_rfl
  rw [h24] at hl
  simp only [Value.cells] at hl hi
  obtain ⟨l, hl2⟩ := bytes_of_cells cs.toList fun i hil => by
    have := hi i (by omega)
    rw [h1, Nat.mul_one, List.getElem?_eq_getElem (by omega)] at this
    obtain ⟨k, hk, _, hw⟩ := DataW.trod_int Tryd.underlying5 this
    obtain ⟨b, rfl⟩ := byte_of hw
    exact ⟨b, hk⟩
  refine ⟨l, ?_, ?_⟩
  · unfold bytesArr; rw [← hl2]
  · have := congrArg List.length hl2
    rw [List.length_map] at this
    omega
theorem Flo.run_dies (l : List Flo.Msg) {bad : List UInt8} (hb : bad.length = 24) (he : (Frm.head bad).2 ≠ 0) (rest : List UInt8) : Flo.run (Flo.bytes l ++ bad ++ rest) = (Flo.want l ++ [⟨[], [], (Frm.head bad).2⟩], [], true) := by
  have ht : (bad ++ rest).take 24 = bad := by rw [List.take_append_of_le_length (by omega), List.take_of_length_le (by omega)]
  have h2 : Flo.run (bad ++ rest) = ([⟨[], [], (Frm.head bad).2⟩], [], true) := by
    have := Flo.run_bad (x := bad ++ rest) (by rw [List.length_append]; omega) (by rw [ht]; exact he)
    rw [ht] at this
    exact this
  rw [List.append_assoc, Flo.run_row, h2]
theorem FlowS.nil_dead {w : World} {F base : Nat} {v : Value} {s : List UInt8 × Bool} (h : FlowS w F base v s) (hd : s.2 = true) : v = .slice none 0 0 := by
  rcases h with ⟨a, b, c, _⟩ | ⟨a, b, hd', n, c, d, e⟩ | ⟨a, hd', hv, body, b, c, d, e⟩
  · exact c
  · rw [hd] at a; cases a
  · rw [hd] at a; cases a
set_option maxHeartbeats 4000000 in
theorem flowDies_walk (w : World) (hl : Laid w) (A0 : Option Addr) (n0 c0 : Nat) (ls : List Flo.Msg) (hln : ls.length = n0) (hc : n0 ≤ c0) (hm : c0 ≤ maxLen) (hat : MsgsAt w w.heap.size A0 ls) (bad : List UInt8) (hbad : bad.length = 24)
    (A2 : Option Addr) (n2 c2 : Nat) (rest : List UInt8) (hln2 : rest.length = n2) (hc2 : n2 ≤ c2) (hm2 : c2 ≤ maxLen) (hat2 : BytesAt w w.heap.size A2 rest) :
    Calls Tryd.prog 7 #[.slice A0 n0 c0, .agg (bytesArr bad), .slice A2 n2 c2] w fun r w' => r = .returned (.bool true) ∧ Below w.heap.size w w' := by
  have HL := Lib.hid hl
  have l1 := hl.lc
  have l2 := hl.lf
  have HLN0 := Lib.hid hln
  have HLN2 := Lib.hid hln2
  have HAT0 := Lib.hid hat
  have HAT2 := Lib.hid hat2
  have HBAD := Lib.hid hbad
  obtain ⟨bs, hbs⟩ : ∃ bs, bs = bytesArr bad := ⟨_, rfl⟩
  rw [← hbs]
  have HBS := Lib.hid hbs
  clear hl hat hln hln2 hat2 hc hm hbad hbs
  go_enter Tryd.func7, Tryd.ntmps7
  go_wp2_with fail
  obtain ⟨W0, hW0⟩ : ∃ W0, W0 = w.alloc (.cells bs 54) := ⟨_, rfl⟩
  have hz0 : W0.heap.size = w.heap.size + 1 := by rw [hW0]; simp
  have HB0 : Hid (Below w.heap.size w W0) := Lib.hid (by rw [hW0]; exact Joins.below_alloc1 _ _)
  have HK0 : Hid (Bk W0 w.heap.size 54 (bytesArr bad)) := Lib.hid (by rw [hW0, ← HBS.out]; exact Bk.new _ _ _)
  rw [← hW0]
  clear hW0
  refine (flow_alive W0 (HL.out.below HB0.out)).mono ?_
  rintro e w1 ⟨rfl, hb1⟩
  have hz1 := hb1.size
  have HB1 := Lib.hid (HB0.out.trans (hb1.mono (by omega)))
  have HK1 := Lib.hid (HK0.out.below hb1 (by omega))
  clear hb1 HB0 HK0
  by_cases h1 : 20 < n0
  · have h1' : (20 : Int) < (n0 : Int) := by omega
    go_wp2_with fail
    go_ret
    exact ⟨rfl, HB1.out⟩
  have h1' : ¬ (20 : Int) < (n0 : Int) := by omega
  by_cases h2 : 5000 < n2
  · have h2' : (5000 : Int) < (n2 : Int) := by omega
    go_wp2_with fail
    go_ret
    exact ⟨rfl, HB1.out⟩
  have h2' : ¬ (5000 : Int) < (n2 : Int) := by omega
  have hhd := head_yes w.heap.size 0 24 w1.heap.size bad w1 HBAD.out (HK1.out.bytesAt (B := w1.heap.size) (by omega)) (Nat.le_refl _) (Nat.le_refl _)
  have herr := Flo.head_err HBAD.out
  unfold headV at hhd
  have HRUN := Lib.hid (fun h => Flo.run_dies ls HBAD.out h rest)
  obtain ⟨ec, hec⟩ : ∃ ec, ec = (Frm.head bad).2 := ⟨_, rfl⟩
  obtain ⟨hv, hhv⟩ : ∃ hv, hv = (Frm.head bad).1 := ⟨_, rfl⟩
  rw [← hec, ← hhv] at hhd
  rw [← hec] at herr HRUN
  have HHD := Lib.hid hhd
  have HERR := Lib.hid herr
  clear hhd herr hec hhv
  go_wp2_with fail
  all_goals try (exfalso; omega)
  refine HHD.out.mono ?_
  rintro e w2 ⟨rfl, hb2⟩
  have hz2 := hb2.size
  have HB2 := Lib.hid (HB1.out.trans (hb2.mono (by omega)))
  have HK2 := Lib.hid (HK1.out.below hb2 (by omega))
  clear hb2 HHD HB1 HK1
  by_cases hok : ec = 0
  · subst hok
    have HB2' := Lib.hid (HB2.out.alloc (by have := HB2.out.size; omega) (.cells #[.string ⟨hv.cmd.toArray⟩, .int .i64 (hv.len : Int), .int .u32 (hv.sum : Int)] 56))
    go_wp2_with fail
    go_ret
    exact ⟨rfl, HB2'.out⟩
  have herr : ec = 6 ∨ ec = 5 := HERR.out.resolve_left hok
  have hok' : (ec == 0) = false := by simpa using hok
  have HOK := Lib.hid hok
  have HERR2 := Lib.hid herr
  clear hok herr HERR
  go_wp2_with fail
  obtain ⟨w3, hw3⟩ : ∃ w3, w3 = w2.alloc (.cells #[.string ⟨hv.cmd.toArray⟩, .int .i64 (hv.len : Int), .int .u32 (hv.sum : Int)] 56) := ⟨_, rfl⟩
  have hb3 : Below w2.heap.size w2 w3 := by rw [hw3]; exact Joins.below_alloc1 _ _
  rw [← hw3]
  clear hw3
  have hz3 := hb3.size
  have HB3 := Lib.hid (HB2.out.trans (hb3.mono (by omega)))
  have HK3 := Lib.hid (HK2.out.below hb3 (by omega))
  clear hb3 HB2 HK2
  refine (row_any A0 n0 c0 ls w3 HLN0.out (by omega) (MsgsAt.mono (HAT0.out.below HB3.out) (by omega)) (HL.out.below HB3.out)).mono ?_
  rintro e w4 ⟨vb, vw, rfl, hob, how, hap, hb4⟩
  have hz4 := hb4.size
  have hbl := (Flo.bytes_len ls).1
  have hwl := (Flo.bytes_len ls).2
  rw [HLN0.out] at hbl hwl
  obtain ⟨N, hN⟩ : ∃ N, N = (Flo.bytes ls).length := ⟨_, rfl⟩
  rw [← hN] at hbl
  have hN5 : N ≤ 50000 := by omega
  have HN := Lib.hid hN
  obtain ⟨want, hwant⟩ : ∃ x, x = Flo.want ls := ⟨_, rfl⟩
  rw [← hwant] at how HRUN hwl
  have hwl2 : want.length ≤ 20 := by omega
  have HB4 := Lib.hid (HB3.out.trans (hb4.mono (by omega)))
  have HK4 := Lib.hid (HK3.out.below hb4 (by omega))
  have HOB4 := Lib.hid hob
  have HOW4 := Lib.hid how
  have HAP := Lib.hid hap
  have HVB := Lib.hid (own_lt hob)
  have HVW := Lib.hid how.lt
  clear hbl hwl hN hb4 hob how hap HB3 HK3 HAT0 hwant
  go_wp2_with fail
  refine (flowNew_any w4).mono ?_
  rintro e w5 ⟨rfl, hk5, hz5, hb5⟩
  obtain ⟨F, hF⟩ : ∃ F, F = w4.heap.size := ⟨_, rfl⟩
  rw [← hF] at hk5 ⊢
  have hF4 : w4.heap.size ≤ F := by omega
  have LF5 := hk5.lt
  have HF5 := Lib.hid hk5
  have HB5 := Lib.hid (HB4.out.trans (hb5.mono (by omega)))
  have HK5 := Lib.hid (HK4.out.below hb5 (by omega))
  have HOB5 : Hid (w5.ownsRow w3.heap.size 5 1 vb N ((Flo.bytes ls).map byteV)) := Lib.hid (by rw [HN.out]; exact own_kp2 HOB4.out (Kp.of_below (S := fun _ => False) hb5) (fun _ _ h => h))
  have HOW5 := Lib.hid (HOW4.out.kp (Kp.of_below (S := fun _ => False) hb5) (fun _ _ h => h) (by omega) (fun _ _ h => h))
  have hz54 := hb5.size
  obtain ⟨ib, hi, hz, hz', hz''⟩ := info_parts byte_info
  have Bi := Lib.hid hi
  have Bz := Lib.hid hz
  have Bz1 := Lib.hid hz'
  have Bz2 := Lib.hid hz''
  have HSB := Lib.hid (BytesAt.src (HK5.out.bytesAt (B := w5.heap.size) (by omega)))
  have HLB : Hid ((bad.map byteV).length = 24 * 1) := Lib.hid (by rw [List.length_map, HBAD.out])
  have HLR : Hid ((rest.map byteV).length = n2 * 1) := Lib.hid (by rw [List.length_map, HLN2.out, Nat.mul_one])
  clear hF hz5 hk5 hb5 hi hz hz' hz'' HB4 HK4 HOB4 HOW4
  go_wp2_with (first
    | (at_builtin; refine wpList_app _ rfl (.tmp 38) (.tmp 39) _ rfl w3.heap.size 5 ib _ 1 1 Tryd.underlying28 Bi.out Bz.out Bz1.out Bz2.out rfl (by decide) vb N ((Flo.bytes ls).map byteV) rfl HOB5.out (some ⟨w.heap.size, 0, none⟩) 24 24 (bad.map byteV) rfl HLB.out HSB.out (oneCell_bytes _) (by unfold maxLen; omega) (by omega) (by omega) ?_; intro v6 w6 hrow6 hg6 hat6; have HR6 := Lib.hid hrow6; have k6 : Kp (fun i => vb.ownBlock = some i) w5 w6 := (Kp.refl _ _).grown hg6 (fun k hk _ => hk); have hz6 := k6.size; have HK6 := Lib.hid k6; have HAT6 := Lib.hid hat6; have HS6 : Hid (Src w6 A2 (rest.map byteV)) := Lib.hid (BytesAt.src (At.kp (HAT2.out.below HB5.out) k6 (by omega) (fun i hi e => by have := (HVB.out i e).1; omega))); clear hrow6 k6 hg6 hat6)
    | (at_builtin; refine wpList_app _ rfl (.tmp 40) (.tmp 41) _ rfl w3.heap.size 5 ib _ 1 1 Tryd.underlying28 Bi.out Bz.out Bz1.out Bz2.out rfl (by decide) v6 (N + 24) _ rfl HR6.out A2 n2 c2 (rest.map byteV) rfl HLR.out HS6.out (oneCell_bytes _) (by unfold maxLen; omega) (by omega) (by omega) ?_; intro v7 w7 hrow7 hg7 hat7))
  obtain ⟨A7, c7, rfl, hn7, hm7, hsrc7⟩ := own_src hrow7
  have hX : (Flo.bytes ls ++ bad ++ rest).length = N + 24 + n2 := by rw [List.length_append, List.length_append, HBAD.out, HLN2.out, ← HN.out]
  have hown7 : OwnB w7 w3.heap.size (.slice A7 (N + 24 + n2) c7) (Flo.bytes ls ++ bad ++ rest) := by
    unfold OwnB; rw [hX, List.map_append, List.map_append]; exact hrow7
  have k7 : Kp (fun i => v6.ownBlock = some i) w6 w7 := (Kp.refl _ _).grown hg7 (fun k hk _ => hk)
  have hz7 := k7.size
  have hsz6 := HK6.out.size
  have hv6 : ∀ i, v6.ownBlock = some i → i ≠ F ∧ w3.heap.size ≤ i ∧ vw.ownBlock ≠ some i := fun i hi => by
    refine ⟨fun e => ?_, (own_lt HR6.out i hi).1, fun e => ?_⟩
    · rcases HAT6.out with h | h <;> rw [h] at hi
      · have := (HVB.out i hi).2; omega
      · have := Option.some.inj hi; omega
    · have h1 := (HVW.out i e).2
      rcases HAT6.out with h | h <;> rw [h] at hi
      · exact HAP.out i hi e
      · have := Option.some.inj hi; omega
  have hv7 : ∀ a, A7 = some a → a.block ≠ F := fun a ha e => by
    have ho : (Value.slice A7 (N + 24 + n2) c7).ownBlock = some a.block := by rw [ha]; rfl
    rcases hat7 with h | h
    · rw [h] at ho; exact (hv6 _ ho).1 e
    · rw [h] at ho; have := Option.some.inj ho; omega
  have k57 : Kp (fun i => vb.ownBlock = some i ∨ v6.ownBlock = some i) w5 w7 := (HK6.out.mono (fun _ _ h => .inl h)).trans (k7.mono (fun _ _ h => .inr h))
  have HF7 := Lib.hid (FlowS.new w w7.heap.size w7 F (HF5.out.kp k57 (fun e => e.elim (fun h => by have := (HVB.out _ h).2; omega) (fun h => (hv6 _ h).1 rfl))))
  have HB7 := Lib.hid (HB5.out.trans (k57.low_from (B := w.heap.size) (fun i hi e => e.elim (fun h => by have := (HVB.out _ h).1; omega) (fun h => by have := (hv6 _ h).2.1; omega)) (by omega)))
  have HOW7 := Lib.hid (HOW5.out.kp k57 (fun i hi e => e.elim (fun h => HAP.out i h hi) (fun h => (hv6 _ h).2.2 hi)) (by omega) (fun i hi e => e.elim (fun h => by have := (HVB.out _ h).1; omega) (fun h => by have := (hv6 _ h).2.1; omega)))
  obtain ⟨A7', c7', e7, hn7', hm7', hat7', _⟩ := hown7.at_
  injection e7 with eA eN ec2
  subst eA
  subst ec2
  clear eN
  have h1 := feed_any F w7.heap.size c7 A7 (Flo.bytes ls ++ bad ++ rest) _ _ w7 (by omega) (Nat.le_refl _) HF7.out hat7' (fun a ha _ => hv7 a ha) (HL.out.below HB7.out) (by omega) (by omega) (by omega) (by omega) (by rw [hX]; omega) (by rw [hX]; omega) hm7
  rw [Flo.feed_new, HRUN.out HOK.out, hX] at h1
  have H1 := Lib.hid h1
  have LF7 : F < w7.heap.size := by omega
  clear h1 hX hown7 k7 hv6 hv7 k57 hat7' hrow7 hg7 hat7 hsrc7 HK6 HAT6 HR6 HS6 HSB HLB HLR HF5 HB5 HK5 HOB5 HOW5 Bi Bz Bz1 Bz2
  (with_reducible refine H1.out.mono ?_)
  rintro e w8 ⟨v8, rfl, vb8, hfs8, hside8⟩
  have hkp8 : Kp (fun i => i = F) w7 w8 := hside8.kp.mono (fun i _ h => h.elim (fun h => h) (fun h => by cases h))
  have hz8 := hkp8.size
  have HR8 := Lib.hid hside8.row
  have HF8 := Lib.hid hfs8
  have HB8 := Lib.hid (HB7.out.trans (hkp8.low_from (B := w.heap.size) (fun i hi e => by omega) (by omega)))
  have HOW8 := Lib.hid (HOW7.out.kp hkp8 (fun i hi e => by have := (HVW.out i hi).2; omega) (by omega) (fun i hi e => by omega))
  obtain ⟨A8, c8, rfl, _, _, _⟩ := hside8.row.at_
  have hv8 := HF8.out.nil_dead rfl
  subst hv8
  have hr2 := HLN2.out
  have h2 := feed_any F w8.heap.size c2 A2 rest _ _ w8 (by omega) (Nat.le_refl _) (FlowS.rebase HF8.out (by simp) w8.heap.size) ((HAT2.out.below HB8.out).mono (by omega)) (fun a ha h0 => by
    obtain ⟨q, of', hA', hq, _⟩ := BytesAt.cell HAT2.out (i := 0) h0
    rw [hA'] at ha; cases ha; show q ≠ F; omega) (HL.out.below HB8.out) (by omega) (by omega) (by omega) (by omega) (by omega) (by omega) hm2
  rw [Flo.feed_dead (by rfl), hr2] at h2
  have H2 := Lib.hid h2
  clear h2 hr2 hside8 hfs8 hkp8 HF7 HB7 HOW7 H1
  go_wp2_with fail
  (with_reducible refine H2.out.mono ?_)
  rintro e w9 ⟨v9, rfl, vb9, hfs9, hside9⟩
  have hkp9 : Kp (fun i => i = F) w8 w9 := hside9.kp.mono (fun i _ h => h.elim (fun h => h) (fun h => by cases h))
  have hz9 := hkp9.size
  have HR9 := Lib.hid (HR8.out.kp (Q := fun i => w7.heap.size ≤ i) hkp9 (fun i hi e => by have := (HR8.out.lt i hi).1; omega) (fun i hp _ => ⟨fun e => hp.1.elim (fun h => by cases h) (fun h => by omega), hp.1.elim (fun h => by cases h) (fun h => h)⟩))
  have HF9 := Lib.hid hfs9
  have HB9 := Lib.hid (HB8.out.trans (hkp9.low_from (B := w.heap.size) (fun i hi e => by omega) (by omega)))
  obtain ⟨us, e1, e2, e3⟩ := HOW8.out.kp hkp9 (fun i hi e => by have := (HVW.out i hi).2; omega) (by omega) (fun i hi e => by omega)
  obtain ⟨A9, c9, rfl, _, _, _⟩ := hside9.row.at_
  obtain ⟨i1, hi, hz0, hz1', hz2'⟩ := info_parts item_info
  have Ji := Lib.hid hi
  have Jz := Lib.hid hz0
  have Jz1 := Lib.hid hz1'
  have Jz2 := Lib.hid hz2'
  have HE1 := Lib.hid e1
  have HE3 := Lib.hid e3
  have hb10 := Joins.below_alloc1 w9 (.cells #[.string ⟨#[]⟩, .slice none 0 0, .int .i64 ec] 52)
  have HB10 := Lib.hid hb10
  have HON := Lib.hid (own_below e2 hb10)
  have HSRC := Lib.hid (Src.at_ w9 [.string ⟨#[]⟩, .slice none 0 0, .int .i64 ec] 52 #[.string ⟨#[]⟩, .slice none 0 0, .int .i64 ec] w9.heap.size rfl rfl)
  clear hi hz0 hz1' hz2' e1 e2 e3 hb10 hside9 hfs9 hkp9 HF8 HB8 HR8 HOW8 H2
  simp only [List.length_nil]
  go_wp2_with (at_builtin; refine wpList_app _ rfl (.tmp 48) (.tmp 51) _ rfl w3.heap.size 52 i1 _ 3 48 Tryd.underlying32 Ji.out Jz.out Jz1.out Jz2.out rfl (by decide) vw want.length ((want.zip us).flatMap itemPair) rfl HON.out (some ⟨w9.heap.size, 0, none⟩) 1 1 [.string ⟨#[]⟩, .slice none 0 0, .int .i64 ec] rfl rfl HSRC.out (itemCells_one ⟨[], [], ec⟩ none 0 0) (by unfold maxLen; omega) (by omega) (by simp; omega) ?_; intro v11 w11 hrow11 hg11 hat11)
  have hz10 := HB10.out.size
  have row11 : RowW w3.heap.size w3.heap.size w11 v11 (want ++ [⟨[], [], ec⟩]) := RowW.push (w := w9.alloc (.cells #[.string ⟨#[]⟩, .slice none 0 0, .int .i64 ec] 52)) HE1.out (fun i hi => by
    obtain ⟨u, hu, hp⟩ := HE3.out i hi
    exact ⟨u, hu, hp.kp (Kp.of_below (S := fun _ => False) HB10.out) (by omega) (fun _ _ h => h)⟩) (u := .slice none 0 0) ⟨none, 0, rfl, Nat.le_refl _, by simp [maxLen], At.nil _ _ _⟩ hrow11 hg11 (fun i hi => (HVW.out i hi).1) (by omega)
  have k11 : Kp (fun i => vw.ownBlock = some i) w9 w11 := ((Kp.of_below HB10.out).mono (fun _ _ h => h)).trans ((Kp.refl _ _).grown hg11 (fun k hk _ => hk))
  have hz11 := k11.size
  have HF11 := Lib.hid (HF9.out.kp k11 (fun e => by have := (HVW.out _ e).2; omega) (fun i hi e => by have := (HF9.out.lt.2 i hi).1; have := (HVW.out i e).2; omega))
  have HB11 := Lib.hid (HB9.out.trans (k11.low_from (B := w.heap.size) (fun i hi e => by have := (HVW.out i e).1; omega) (by omega)))
  obtain ⟨A11, c11, rfl, _, _, hit11⟩ := row11.at_ (by omega)
  obtain ⟨A8', c8', e8, _, _, hit8⟩ := (HR9.out.kp (Q := fun _ => True) k11 (fun i hi e => by have := (HR9.out.lt i hi).1; have := (HVW.out i e).2; omega) (fun i hp _ => ⟨fun e => by have := (HVW.out i e).2; omega, trivial⟩)).at_
  injection e8 with eA eN ec2
  subst eA
  subst ec2
  clear eN
  have hsm := isame_any A8 A11 c8 c11 (want ++ [⟨[], [], ec⟩]) w11 (by rw [List.length_append]; simp; omega) hit8 hit11
  have hlen : (want ++ [(⟨[], [], ec⟩ : Flo.Item)]).length = want.length + 1 := by rw [List.length_append]; rfl
  rw [hlen] at hsm ⊢
  have HSM := Lib.hid hsm
  clear hsm hlen row11 k11 hit11 hit8 hrow11 hg11 hat11 HF9 HR9 HB9 HE1 HE3 HB10 HON HSRC Ji Jz Jz1 Jz2 HRUN
  (with_reducible refine HSM.out.mono ?_)
  rintro e w12 ⟨rfl, hb12⟩
  have HF12 := Lib.hid (HF11.out.low hb12)
  have HB12 := Lib.hid (HB11.out.trans (hb12.mono (by omega)))
  have hz12 := hb12.size
  clear hb12 HF11 HB11 HSM
  have herr := HERR2.out
  rcases herr with rfl | rfl
  all_goals
    go_wp2_with fail
    (with_reducible refine (dead_s HF12.out).mono ?_)
    rintro e w13 ⟨rfl, rfl⟩
    go_wp2_with fail
    (with_reducible refine (waits_s HF12.out).mono ?_)
    rintro e w14 ⟨rfl, hb14⟩
    have HB14 := Lib.hid (HB12.out.trans (hb14.mono (by have := HB12.out.size; omega)))
    clear hb14
    go_wp2_with fail
    go_ret
    exact ⟨rfl, HB14.out⟩
end Go.Proofs.YteebehmmfkapgaaDoor
