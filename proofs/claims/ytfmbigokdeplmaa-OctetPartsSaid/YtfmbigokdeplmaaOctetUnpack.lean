/- Unpack: the program's walk. -/
import Derived.Test.YtfmbigokdeplmaaOctetRows
import Derived.Laws.CopyRow
import Derived.Laws.IdiomCopy
import Derived.Laws.CopyOwn
namespace Go.Proofs.Ytfmbigokdeplmaa
open Go.RowKit Go.Deep
set_option linter.unusedVariables false
set_option maxRecDepth 100000
attribute [local go_sem ↓] Go.wp_at_zero Go.wp_at_succ

/-- a row of parts and a number, as Unpack hands them -/
def UnpOut (w w' : World) (p : List (List UInt8) × Int) (r : Ending) : Prop :=
  ∃ A cap, r = .returned (.tuple #[.slice A p.1.length cap, .int .i64 p.2]) ∧ p.1.length ≤ cap ∧ cap ≤ maxLen ∧ PartsAt w' w'.heap.size A p.1 ∧ Below w.heap.size w w'
theorem parts_nil (w : World) (B : Nat) (A : Option Addr) : PartsAt w B A [] := fun i hi => by simp at hi
theorem UnpOut.none {w w' : World} {e : Int} (h : Below w.heap.size w w') : UnpOut w w' ([], e) (.returned (.tuple #[.slice none 0 0, .int .i64 e])) := ⟨Option.none, 0, rfl, Nat.le_refl _, by simp [maxLen], parts_nil _ _ _, h⟩
theorem byte_size : (Try.prog.info? 5).map (·.size) = some 1 := by kernel_rfl
/-- bytes copied over a row that was just made -/
theorem copy_part (w : World) (g z n cap B : Nat) (A : Option Addr) (s : List UInt8) (hg : Bk w g 5 (madeCells #[.int .u8 0] z)) (hl : s.length = n) (hz : z ≤ n) (hs : BytesAt w B A s) :
    ∃ w2, (∀ ty, (Builtin.copy_ #[23, 23] ty #[.slice (some ⟨g, 0, none⟩) z z, .slice A n cap]).run Try.prog w = .ok (goInt z) w2) ∧ Bk w2 g 5 (bytesArr (s.take z)) ∧ Below g w w2 := by
  have hlt : (s.take z).length = z := by rw [List.length_take]; omega
  cases z with
  | zero =>
    refine ⟨w, fun ty => run_copy_none w _ _ ty 5 _ _ 0 0 n cap Try.underlying23 byte_size (by simp), ?_, Below.refl _ _⟩
    rw [made_zero] at hg
    exact hg
  | succ z =>
    obtain ⟨q, off, rfl, _, _⟩ := hs.cell (i := 0) (by omega)
    have hsrc := BytesAt.src (BytesAt.take hs (z + 1))
    have hcl : ((s.take (z + 1)).map byteV).length = z + 1 := by rw [List.length_map, hlt]
    have hms : (madeCells #[.int .u8 0] (z + 1)).size = z + 1 := by simp [madeCells]
    have hrun := fun ty => run_copy_row (P := Try.prog) w 23 23 ty 5 g 0 (z + 1) (z + 1) ⟨q, off, none⟩ n cap (madeCells #[.int .u8 0] (z + 1)) 5 ((s.take (z + 1)).map byteV)
      Try.underlying23 byte_size hg (by rw [hcl]; exact (Nat.min_eq_right hz).symm) (fun j v hj => by obtain ⟨ad, ha, hc⟩ := hsrc j v hj; cases ha; exact hc) (by omega) (oneCell_bytes _)
    have hrow : ((madeCells #[.int .u8 0] (z + 1)).toList.take 0 ++ (s.take (z + 1)).map byteV ++ (madeCells #[.int .u8 0] (z + 1)).toList.drop (0 + (z + 1))).toArray = bytesArr (s.take (z + 1)) := by
      rw [List.drop_of_length_le (by rw [Array.length_toList]; omega)]
      simp [bytesArr]
    rw [hcl, hrow] at hrun
    exact ⟨_, hrun, setRow_heap _ _ _ _ _ _ hg, below_setRow (Below.refl _ _) (Nat.le_refl _) _⟩
theorem Bk.bytes {w : World} {g t B : Nat} {bs : List UInt8} (h : Bk w g t (bytesArr bs)) (hB : g < B) : BytesAt w B (some ⟨g, 0, none⟩) bs := by
  intro i hi
  refine ⟨g, 0, [byteV bs[i]], rfl, hB, rfl, fun j hj => ?_⟩
  have hj0 : j = 0 := by simpa using hj
  subst hj0
  rw [h.cell]
  simp [bytesArr, hi]
/-- taken apart so far -/
structure UnpL (w0 : World) (b : List UInt8) (res : List (List UInt8) × Int) (k at_ : Nat) (v : Value) (w : World) : Prop where
  le : at_ ≤ b.length
  pos : 1 ≤ at_
  small : k ≤ 9223372036854775807
  rest : ∃ acc, Oct.takeApart k (b.drop at_) acc = res ∧ RowP w w0.heap.size v acc ∧ acc.length ≤ at_
  below : Below w0.heap.size w0 w

set_option maxHeartbeats 1000000 in
theorem ounpack_any (A : Option Addr) (n cap : Nat) (b : List UInt8) (most : Int) (w : World) (hl : b.length = n) (hn : n ≤ 1000000) (hc : n ≤ cap) (hm : cap ≤ maxLen) (hmost : most ≤ 9223372036854775807) (h : BytesAt w w.heap.size A b) :
    Calls Try.prog 23 #[.slice A n cap, .int .i64 most] w fun r w' => UnpOut w w' (Oct.unpack b most) r := by
  subst hl
  obtain ⟨i0, hi, hz0, hz1, hz2⟩ := info_parts parts_info
  have Hi := Lib.hid hi
  have Hz := Lib.hid hz0
  have Hz1 := Lib.hid hz1
  have Hz2 := Lib.hid hz2
  clear hi hz0 hz1 hz2
  rcases Oct.read_back b with ⟨h1, h2, h3, h4⟩ | ⟨h1, h2, h3, h4, h5⟩
  · have hu : Oct.unpack b most = ([], (Oct.read b).2.2) := by unfold Oct.unpack; rw [if_pos h1]
    rw [hu]
    have hr : readV b = .tuple #[.int .u64 0, .int .i64 0, .int .i64 (Oct.read b).2.2] := by unfold readV; rw [h2, h3]; rfl
    have hne : ((Oct.read b).2.2 != 0) = true := by rw [bne_iff_ne]; exact h1
    have HR := Lib.hid hr
    clear hr h2 h3 hu h1 h4
    generalize (Oct.read b).2.2 = e at *
    go_enter Try.func23, Try.ntmps23
    go_wp2_with fail
    refine (oread_any A _ cap _ b _ rfl hc hm h).mono ?_
    rw [HR.out]
    rintro r w1 ⟨rfl, rfl⟩
    go_wp2
    go_ret2
    exact UnpOut.none (Below.refl _ _)
  · have hr := readV_of (show Oct.read b = ((Oct.read b).1, (Oct.read b).2.1, (0 : Int)) by rw [← h1])
    have HR := Lib.hid hr
    clear hr h5
    by_cases hmo : most < 0 ∨ most < (Oct.read b).1
    · have hu : Oct.unpack b most = ([], 5) := by unfold Oct.unpack; rw [if_neg (by rw [h1]; exact fun h => h rfl), if_pos hmo]
      rw [hu]
      clear hu h1
      generalize (Oct.read b).1 = k at *
      generalize (Oct.read b).2.1 = at_ at *
      clear h2 h3 h4
      rcases Int.lt_or_le most 0 with hneg | hpos
      · clear hmo
        go_enter Try.func23, Try.ntmps23
        go_wp2_with fail
        refine (oread_any A _ cap _ b _ rfl hc hm h).mono ?_
        rw [HR.out]
        rintro r w1 ⟨rfl, rfl⟩
        go_wp2
        go_ret2
        exact UnpOut.none (Below.refl _ _)
      · obtain ⟨m, rfl⟩ := Int.eq_ofNat_of_zero_le hpos
        have hlt : ((m : Int) < (k : Int)) := by omega
        clear hmo
        go_enter Try.func23, Try.ntmps23
        go_wp2_with fail
        refine (oread_any A _ cap _ b _ rfl hc hm h).mono ?_
        rw [HR.out]
        rintro r w1 ⟨rfl, rfl⟩
        go_wp2
        go_ret2
        exact UnpOut.none (Below.refl _ _)
    · have hu : Oct.unpack b most = Oct.takeApart (Oct.read b).1 (b.drop (Oct.read b).2.1) [] := by unfold Oct.unpack; rw [if_neg (by rw [h1]; exact fun h => h rfl), if_neg hmo]
      have Hu := Lib.hid hu
      have hsp := (Oct.size_pos (Oct.read b).1).1
      rw [← h3] at hsp
      clear hu h1 h3
      generalize (Oct.read b).1 = k0 at *
      generalize (Oct.read b).2.1 = at0 at *
      obtain ⟨m, rfl⟩ := Int.eq_ofNat_of_zero_le (show 0 ≤ most by omega)
      have hlt : ¬ ((m : Int) < (k0 : Int)) := by omega
      obtain ⟨q, off, rfl, _, _⟩ := h.cell (i := 0) (by omega)
      have hpos : (0 : Int) ≤ (m : Int) := by omega
      clear hmo
      go_enter Try.func23, Try.ntmps23
      go_wp2_with fail
      refine (oread_any _ _ cap _ b _ rfl hc hm h).mono ?_
      rw [HR.out]
      rintro r w1 ⟨rfl, rfl⟩
      go_wp2_with fail
      go_loopw [6, 7, 9] (fun u6 u7 u9 wr => ∃ k at_ : Nat, u6 = .int .u64 k ∧ u7 = .int .i64 at_ ∧ UnpL w b (Oct.takeApart k0 (b.drop at0) []) k at_ u9 wr) (fun u6 _ _ _ => (intOf u6).toNat)
      case atStart => exact ⟨k0, at0, rfl, rfl, h4, hsp, by omega, ⟨[], rfl, RowP.nil _ _, Nat.zero_le _⟩, Below.refl _ _⟩
      case round =>
        obtain ⟨k, at_, rfl, rfl, g⟩ := hrel
        obtain ⟨acc, hacc, hrow, hal⟩ := g.rest
        have gle := g.le
        have hbl := g.below
        cases k with
        | zero =>
          have G := Lib.hid hacc
          clear hacc g
          by_cases hend : at_ = b.length
          · have hd : Oct.takeApart 0 (b.drop at_) acc = (acc, 0) := by
              unfold Oct.takeApart; rw [if_neg (by rw [List.length_drop]; omega)]
            have HD := Lib.hid hd
            have hei : ((at_ : Int) != (b.length : Int)) = false := by rw [bne_eq_false_iff_eq]; omega
            obtain ⟨A9, c9, rfl, k1, k2, k3⟩ := hrow.parts
            clear hd hend
            go_wp2
            go_ret2
            rw [Hu.out, ← G.out, HD.out]
            exact ⟨A9, c9, rfl, k1, k2, k3, hbl⟩
          · have hd : Oct.takeApart 0 (b.drop at_) acc = ([], 5) := by
              unfold Oct.takeApart; rw [if_pos (by rw [List.length_drop]; omega)]
            have HD := Lib.hid hd
            have hei : ((at_ : Int) != (b.length : Int)) = true := by rw [bne_iff_ne]; omega
            clear hd hend hrow
            go_wp2
            go_ret2
            rw [Hu.out, ← G.out, HD.out]
            exact UnpOut.none hbl
        | succ k =>
          have hpos1 := g.pos
          have hk63 := g.small
          have hati : (at_ : Int) ≤ (b.length : Int) := by omega
          have hati0 : (0 : Int) ≤ (at_ : Int) := by omega
          by_cases hcap : cap = at_
          · subst hcap
            have hd : Oct.takeApart (k + 1) (b.drop cap) acc = ([], 4) := by
              rw [List.drop_of_length_le (by omega)]; rfl
            have HD := Lib.hid hd
            have G := Lib.hid hacc
            have HN := Lib.hid (readV_of (bs := []) (x := 0) (m := 0) (e := 4) rfl)
            obtain rfl : b.length = cap := by omega
            clear hd hacc hrow g
            go_wp2_with fail
            refine (oread_any _ _ _ w.heap.size [] _ (by simp) (by omega) (by omega) (bytes_nil _ _ _)).mono ?_
            rw [HN.out]
            rintro r w1 ⟨rfl, rfl⟩
            go_wp2
            go_ret2
            rw [Hu.out, ← G.out, HD.out]
            exact UnpOut.none hbl
          · have hr : BytesAt wr w.heap.size (some ⟨q, off + at_, none⟩) (b.drop at_) := At.below (BytesAt.drop h at_) hbl
            have hrl : (b.drop at_).length = b.length - at_ := List.length_drop
            have G := Lib.hid hacc
            have Hsd := Lib.hid (show ∀ x, (b.drop at_).drop x = b.drop (at_ + x) from fun x => List.drop_drop)
            clear hacc g
            generalize b.drop at_ = s at *
            rcases Oct.read_back s with ⟨h1, h2, h3, h4⟩ | ⟨h1, h2, h3, h4, h5⟩
            · have hd : Oct.takeApart (k + 1) s acc = ([], (Oct.read s).2.2) := by
                unfold Oct.takeApart; rw [if_pos h1]
              have HD := Lib.hid hd
              have hv : readV s = .tuple #[.int .u64 0, .int .i64 0, .int .i64 (Oct.read s).2.2] := by unfold readV; rw [h2, h3]; rfl
              have hne : ((Oct.read s).2.2 != 0) = true := by rw [bne_iff_ne]; exact h1
              have HV := Lib.hid hv
              clear hd hv hrow h1 h2 h3 h4
              generalize (Oct.read s).2.2 = e at *
              have HRL := Lib.hid hrl
              clear hrl
              go_wp2_with fail
              refine (oread_any _ _ _ w.heap.size s _ HRL.out (by omega) (by omega) hr).mono ?_
              rw [HV.out]
              rintro r w1 ⟨rfl, rfl⟩
              go_wp2
              go_ret2
              rw [Hu.out, ← G.out, HD.out]
              exact UnpOut.none hbl
            · have hv := readV_of (show Oct.read s = ((Oct.read s).1, (Oct.read s).2.1, (0 : Int)) by rw [← h1])
              have HV := Lib.hid hv
              have hdl : (s.drop (Oct.read s).2.1).length = s.length - (Oct.read s).2.1 := List.length_drop
              have hm1 := (Oct.size_pos (Oct.read s).1).1
              rw [← h3] at hm1
              obtain ⟨at2, hat2⟩ : ∃ a : Nat, a = at_ + (Oct.read s).2.1 := ⟨_, rfl⟩
              have hsum : (at_ : Int) + ((Oct.read s).2.1 : Int) = (at2 : Int) := by omega
              by_cases hz : s.length - (Oct.read s).2.1 < (Oct.read s).1
              · have hd : Oct.takeApart (k + 1) s acc = ([], 4) := by
                  unfold Oct.takeApart; rw [if_neg (by rw [h1]; exact fun h => h rfl), if_pos (by rw [hdl]; exact hz)]
                have HD := Lib.hid hd
                have hlt : ((b.length : Int) - (at2 : Int)) < ((Oct.read s).1 : Int) := by omega
                have hge : 0 ≤ (b.length : Int) - (at2 : Int) := by omega
                have HRL := Lib.hid hrl
                clear hv hd h1 h3 h5 hdl hz hm1 hrl hrow hat2 h4
                generalize (Oct.read s).1 = z at *
                generalize (Oct.read s).2.1 = m1 at *
                go_wp2_with fail
                refine (oread_any _ _ _ w.heap.size s _ HRL.out (by omega) (by omega) hr).mono ?_
                rw [HV.out]
                rintro r w1 ⟨rfl, rfl⟩
                go_wp2
                go_ret2
                rw [Hu.out, ← G.out, HD.out]
                exact UnpOut.none hbl
              · have hd : Oct.takeApart (k + 1) s acc = Oct.takeApart k ((s.drop (Oct.read s).2.1).drop (Oct.read s).1) (acc ++ [(s.drop (Oct.read s).2.1).take (Oct.read s).1]) := by
                  conv => lhs; unfold Oct.takeApart
                  rw [if_neg (by rw [h1]; exact fun h => h rfl), if_neg (by rw [hdl]; exact hz)]
                have HD := Lib.hid hd
                have hz' : (Oct.read s).1 ≤ b.length - at2 := by omega
                have hat3 : at2 + (Oct.read s).1 ≤ b.length := by omega
                have hlt : ¬ (((b.length : Int) - (at2 : Int)) < ((Oct.read s).1 : Int)) := by omega
                have hge : 0 ≤ (b.length : Int) - (at2 : Int) := by omega
                have hsrc : BytesAt wr w.heap.size (some ⟨q, off + at2, none⟩) (s.drop (Oct.read s).2.1) := by
                  rw [hat2, ← Nat.add_assoc]; exact BytesAt.drop hr _
                have hdl2 : (s.drop (Oct.read s).2.1).length = b.length - at2 := by omega
                have hal2 : acc.length < at2 := by omega
                have HSD := Lib.hid (show b.drop (at2 + (Oct.read s).1) = (s.drop (Oct.read s).2.1).drop (Oct.read s).1 by rw [List.drop_drop, Hsd.out, hat2, Nat.add_assoc])
                have HRL := Lib.hid hrl
                have hposx : 1 ≤ at2 := by omega
                clear hv hd h1 h3 h5 hdl hz hm1 hrl h4
                generalize (Oct.read s).1 = z at *
                generalize (Oct.read s).2.1 = m1 at *
                have hpl : ((s.drop m1).take z).length = z := by rw [List.length_take]; omega
                have HDL := Lib.hid hdl2
                clear hat2 hdl2
                generalize hp : s.drop m1 = sp at *
                have HP := Lib.hid hp
                clear hp
                have hmk := run_make_row' (P := Try.prog) 23 5 (.int .u8 0) 1 Try.underlying23 byte_info rfl .u64 .u64 z (by omega) (by omega)
                by_cases hcap2 : cap = at2
                · obtain rfl : sp = [] := List.eq_nil_of_length_eq_zero (by rw [HDL.out]; omega)
                  obtain rfl : b.length = cap := by omega
                  subst hcap2
                  obtain ⟨w2, hcp, hb2, hbl2⟩ := copy_part (wr.alloc (.cells (madeCells #[.int .u8 0] z) 5)) wr.heap.size z 0 0 w.heap.size (some ⟨q, off, none⟩) [] (Bk.new _ _ _) rfl (by omega) (bytes_nil _ _ _)
                  have hcp3 := hcp 3
                  have HPL := Lib.hid hpl
                  have hW : Below wr.heap.size wr w2 := (Joins.below_alloc1 _ _).trans hbl2
                  have hsz2 : wr.heap.size < w2.heap.size := Nat.lt_of_lt_of_le (by simp) hbl2.size
                  have hpart : PartN w2 u9 (.slice (some ⟨wr.heap.size, 0, none⟩) z z) (([] : List UInt8).take z) := by
                    refine ⟨some ⟨wr.heap.size, 0, none⟩, z, by rw [hpl], by omega, by unfold maxLen; omega, Bk.bytes hb2 hsz2, fun a ha => ?_⟩
                    cases ha
                    obtain ⟨vs, hv1, _, _⟩ := hrow
                    refine ⟨fun e => ?_, hsz2⟩
                    exact absurd (hv1.lt _ e).2 (Nat.lt_irrefl _)
                  obtain ⟨vs, hv1, hv2, hv3⟩ := hrow.below hW
                  have hv2' : vs.length = acc.length := hv2
                  have HV2 := Lib.hid hv2'
                  have b2 := hbl.trans (hW.mono hbl.size)
                  have bsz := hbl.size
                  clear hpl hcp hv2 hv2' hrow
                  go_wp2_with fail
                  refine (oread_any _ _ _ w.heap.size s _ HRL.out (by omega) (by omega) hr).mono ?_
                  rw [HV.out]
                  rintro r w1 ⟨rfl, rfl⟩
                  go_wp2_with (at_builtin; refine wpList_app _ rfl (.tmp 65) (.tmp 67) _ rfl w.heap.size 23 i0 _ 1 24 Try.underlying40 Hi.out Hz.out Hz1.out Hz2.out rfl (by decide) u9 acc.length vs rfl (hv1.alloc _) (some ⟨w2.heap.size, 0, none⟩) 1 1 [.slice (some ⟨wr.heap.size, 0, none⟩) z z] rfl rfl (Src.at_ _ _ _ _ _ (by simp) rfl) (by simp [Value.oneCell']) (by unfold maxLen; omega) (by omega) (by simp; omega) ?_; intro v4 w4 hrow4 hg4 hat4)
                  have hb4 : Below w.heap.size w w4 := (b2.alloc b2.size _).trans (hg4.below_of_own (hv1.alloc _) (Nat.le_refl _) (by simp; omega))
                  have hR := RowP.push HV2.out (fun i hi => by obtain ⟨u, hu, hp⟩ := hv3 i hi; exact ⟨u, hu, hp.below (Joins.below_alloc1 _ _)⟩) (hpart.below (Joins.below_alloc1 _ _)) hrow4 hg4 hat4
                  go_roundw
                  case rel =>
                    refine ⟨k, b.length + z, (by first | rfl | go_num), (by first | rfl | go_num), ?_, ?_, ?_, ⟨acc ++ [([] : List UInt8).take z], ?_, hR, ?_⟩, hb4⟩
                    · exact hat3
                    · omega
                    · omega
                    · rw [HSD.out, ← HD.out, G.out]
                    · rw [List.length_append, List.length_singleton]; omega
                  case measure => simp [intOf]
                · obtain ⟨w2, hcp, hb2, hbl2⟩ := copy_part (wr.alloc (.cells (madeCells #[.int .u8 0] z) 5)) wr.heap.size z (b.length - at2) (cap - at2) _ _ sp (Bk.new _ _ _) HDL.out (by omega) (At.below hsrc ((Joins.below_alloc1 _ _).mono hbl.size))
                  have hcp3 := hcp 3
                  have HPL := Lib.hid hpl
                  have hW : Below wr.heap.size wr w2 := (Joins.below_alloc1 _ _).trans hbl2
                  have hsz2 : wr.heap.size < w2.heap.size := Nat.lt_of_lt_of_le (by simp) hbl2.size
                  have hpart : PartN w2 u9 (.slice (some ⟨wr.heap.size, 0, none⟩) z z) (sp.take z) := by
                    refine ⟨some ⟨wr.heap.size, 0, none⟩, z, by rw [hpl], by omega, by unfold maxLen; omega, Bk.bytes hb2 hsz2, fun a ha => ?_⟩
                    cases ha
                    obtain ⟨vs, hv1, _, _⟩ := hrow
                    refine ⟨fun e => ?_, hsz2⟩
                    exact absurd (hv1.lt _ e).2 (Nat.lt_irrefl _)
                  obtain ⟨vs, hv1, hv2, hv3⟩ := hrow.below hW
                  have hv2' : vs.length = acc.length := hv2
                  have HV2 := Lib.hid hv2'
                  have b2 := hbl.trans (hW.mono hbl.size)
                  have bsz := hbl.size
                  clear hpl hcp hv2 hv2' hrow
                  go_wp2_with fail
                  refine (oread_any _ _ _ w.heap.size s _ HRL.out (by omega) (by omega) hr).mono ?_
                  rw [HV.out]
                  rintro r w1 ⟨rfl, rfl⟩
                  go_wp2_with (at_builtin; refine wpList_app _ rfl (.tmp 65) (.tmp 67) _ rfl w.heap.size 23 i0 _ 1 24 Try.underlying40 Hi.out Hz.out Hz1.out Hz2.out rfl (by decide) u9 acc.length vs rfl (hv1.alloc _) (some ⟨w2.heap.size, 0, none⟩) 1 1 [.slice (some ⟨wr.heap.size, 0, none⟩) z z] rfl rfl (Src.at_ _ _ _ _ _ (by simp) rfl) (by simp [Value.oneCell']) (by unfold maxLen; omega) (by omega) (by simp; omega) ?_; intro v4 w4 hrow4 hg4 hat4)
                  have hb4 : Below w.heap.size w w4 := (b2.alloc b2.size _).trans (hg4.below_of_own (hv1.alloc _) (Nat.le_refl _) (by simp; omega))
                  have hR := RowP.push HV2.out (fun i hi => by obtain ⟨u, hu, hp⟩ := hv3 i hi; exact ⟨u, hu, hp.below (Joins.below_alloc1 _ _)⟩) (hpart.below (Joins.below_alloc1 _ _)) hrow4 hg4 hat4
                  go_roundw
                  case rel =>
                    refine ⟨k, at2 + z, (by first | rfl | go_num), (by first | rfl | go_num), ?_, ?_, ?_, ⟨acc ++ [sp.take z], ?_, hR, ?_⟩, hb4⟩
                    · exact hat3
                    · omega
                    · omega
                    · rw [HSD.out, ← HD.out, G.out]
                    · rw [List.length_append, List.length_singleton]; omega
                  case measure => simp [intOf]
end Go.Proofs.Ytfmbigokdeplmaa
