/- Package frame: a frame is put. -/
import Derived.Test.YtanjlgkbjcienaaDoorFrame
import Derived.Test.YtanjlgkbjcienaaDoorCopyB
import Derived.Lib.BufferWrite
namespace Go.Proofs.YtanjlgkbjcienaaDoor
open Go.RowKit Go.Deep
set_option linter.unusedVariables false
set_option linter.unusedSimpArgs false
set_option maxRecDepth 100000
attribute [local go_sem ↓] Go.wp_at_zero Go.wp_at_succ

theorem info_mark : (Tryd.prog.info? 87).map (·.size) = some 4 := by kernel_rfl
theorem magic_any (w : World) : Calls Tryd.prog 49 #[] w fun e w' => e = .returned (.agg #[.int .u8 196, .int .u8 240, .int .u8 122, .int .u8 30]) ∧ Below w.heap.size w w' := by
  go_enter Tryd.func49, Tryd.ntmps49
  go_wp2
  refine bodyPost_ret (results_cell_row rfl _ _ w.heap.size 87 #[.int .u8 196, .int .u8 240, .int .u8 122, .int .u8 30] (0, 0) _ rfl (Bk.new _ _ _) Tryd.underlying87 rfl info_mark) rfl ⟨rfl, ?_⟩
  exact Joins.below_alloc1 _ _
theorem copy_string (W : World) (g o dLen : Nat) (s : ByteArray) (row : List UInt8) (hb : Bk W g 5 (bytesArr row)) (hle : s.size ≤ dLen) (hfit : o + s.size ≤ row.length) :
    ∃ W2, (∀ ty dCap, (Builtin.copy_ #[33, 9] ty #[.slice (some ⟨g, o, none⟩) dLen dCap, .string s]).run Tryd.prog W = .ok (goInt s.size) W2) ∧
      Bk W2 g 5 (bytesArr (row.take o ++ s.data.toList ++ row.drop (o + s.size))) ∧ Kp (fun i => i = g) W W2 := by
  have hrun := fun ty dCap => Lib.run_copy_row_string (P := Tryd.prog) W 33 9 ty 5 g o dLen dCap s (bytesArr row) 5 Tryd.underlying33 info_u8 hb hle (by simpa [bytesArr] using hfit)
  have hrow : ((bytesArr row).toList.take o ++ Lib.byteCells s.data.toList ++ (bytesArr row).toList.drop (o + s.size)).toArray = bytesArr (row.take o ++ s.data.toList ++ row.drop (o + s.size)) := by
    simp [bytesArr, List.map_take, List.map_drop, Lib.byteCells, byteV]
  rw [hrow] at hrun
  exact ⟨_, hrun, setRow_heap _ _ _ _ _ _ hb, Kp.setRow (S := fun i => i = g) (Kp.refl _ _) (fun _ => rfl) _⟩
theorem put_unnamed (s : ByteArray) (A : Option Addr) (n c : Nat) (w : World) (hs : s.size ≤ 9223372036854775807) (hn : Frm.named s.data.toList = false) :
    Calls Tryd.prog 23 #[.string s, .slice A n c] w fun e w' => e = .returned (.tuple #[.slice none 0 0, .int .i64 8]) ∧ Below w.heap.size w w' := by
  have HN := Lib.hid (named_any s w hs)
  rw [hn] at HN
  clear hn
  go_enter Tryd.func23, Tryd.ntmps23
  go_wp2_with fail
  refine HN.out.mono ?_
  rintro e w1 ⟨rfl, hb⟩
  go_wp2_with fail
  go_ret2
  exact ⟨rfl, hb⟩
theorem put_long (s : ByteArray) (A : Option Addr) (n c : Nat) (w : World) (hs : s.size ≤ 9223372036854775807) (hn : Frm.named s.data.toList = true) (hl : 2048 < n) :
    Calls Tryd.prog 23 #[.string s, .slice A n c] w fun e w' => e = .returned (.tuple #[.slice none 0 0, .int .i64 5]) ∧ Below w.heap.size w w' := by
  have HN := Lib.hid (named_any s w hs)
  rw [hn] at HN
  have hl' : (2048 : Int) < (n : Int) := by omega
  clear hn
  go_enter Tryd.func23, Tryd.ntmps23
  go_wp2_with fail
  refine HN.out.mono ?_
  rintro e w1 ⟨rfl, hb⟩
  go_wp2_with fail
  go_ret2
  exact ⟨rfl, hb⟩
theorem named_len {l : List UInt8} (h : Frm.named l = true) : l ≠ [] ∧ l.length ≤ 12 ∧ l.all Frm.letter = true := by
  simpa [Frm.named, and_assoc] using h
theorem eight_zero {w : World} {g t n j : Nat} {P : List UInt8} (hb : Bk w g t (bytesArr (P ++ (List.replicate 8 0 ++ List.replicate n 0)))) (hP : P.length = 16) (hj : j < 8) : w.cell? ⟨g, 16 + j, none⟩ = some (.int .u8 0) := by
  rw [hb.cell]
  simp only [bytesArr, List.getElem?_toArray, List.getElem?_map]
  rw [List.getElem?_append_right (by omega), hP, show 16 + j - 16 = j by omega, List.getElem?_append_left (by simpa using hj), List.getElem?_replicate, if_pos hj]
  rfl
theorem le4 (x : Nat) (h : x < 4294967296) : Oct.le x 4 = [UInt8.ofNat x, UInt8.ofNat (x / 256), UInt8.ofNat (x / 65536), UInt8.ofNat (x / 16777216)] := by
  apply List.ext_getElem?
  intro k
  rcases Nat.lt_or_ge k 4 with hk | hk
  · rw [Oct.le_index x 4 k hk]
    have : k = 0 ∨ k = 1 ∨ k = 2 ∨ k = 3 := by omega
    rcases this with rfl | rfl | rfl | rfl <;> simp
  · rw [List.getElem?_eq_none (by rw [Oct.le_length]; exact hk), List.getElem?_eq_none (by simpa using hk)]
theorem eight_set {w : World} {g t n : Nat} {P : List UInt8} (hb : Bk w g t (bytesArr (P ++ (List.replicate 8 0 ++ List.replicate n 0)))) (hP : P.length = 16) (x y : Nat) (hx : x < 4294967296) (hy : y < 4294967296) (z0 z1 z2 z3 z4 z5 z6 z7 : Int)
    (h0 : z0 = ((x % 256 : Nat) : Int)) (h1 : z1 = ((x / 256 % 256 : Nat) : Int)) (h2 : z2 = ((x / 65536 % 256 : Nat) : Int)) (h3 : z3 = ((x / 16777216 % 256 : Nat) : Int))
    (h4 : z4 = ((y % 256 : Nat) : Int)) (h5 : z5 = ((y / 256 % 256 : Nat) : Int)) (h6 : z6 = ((y / 65536 % 256 : Nat) : Int)) (h7 : z7 = ((y / 16777216 % 256 : Nat) : Int)) :
    Bk ((((((((w.setCell ⟨g, 16, none⟩ (.int .u8 z0)).setCell ⟨g, 20, none⟩ (.int .u8 z4)).setCell ⟨g, 17, none⟩ (.int .u8 z1)).setCell ⟨g, 21, none⟩ (.int .u8 z5)).setCell ⟨g, 18, none⟩ (.int .u8 z2)).setCell ⟨g, 22, none⟩ (.int .u8 z6)).setCell ⟨g, 19, none⟩ (.int .u8 z3)).setCell ⟨g, 23, none⟩ (.int .u8 z7))
      g t (bytesArr (P ++ (Oct.le x 4 ++ Oct.le y 4 ++ List.replicate n 0))) := by
  rw [← byte_of_nat _ _ h0, ← byte_of_nat _ _ h1, ← byte_of_nat _ _ h2, ← byte_of_nat _ _ h3, ← byte_of_nat _ _ h4, ← byte_of_nat _ _ h5, ← byte_of_nat _ _ h6, ← byte_of_nat _ _ h7]
  have := (((((((hb.setByte 16 (UInt8.ofNat x)).setByte 20 (UInt8.ofNat y)).setByte 17 (UInt8.ofNat (x / 256))).setByte 21 (UInt8.ofNat (y / 256))).setByte 18 (UInt8.ofNat (x / 65536))).setByte 22 (UInt8.ofNat (y / 65536))).setByte 19 (UInt8.ofNat (x / 16777216))).setByte 23 (UInt8.ofNat (y / 16777216))
  rw [le4 x hx, le4 y hy]
  have e : ∀ (k : Nat) (c : UInt8) (r : List UInt8), (P ++ r).set (16 + k) c = P ++ r.set k c := fun k c r => by rw [List.set_append_right _ _ (by omega), hP, show 16 + k - 16 = k by omega]
  rw [show 16 = 16 + 0 from rfl, e, show 20 = 16 + 4 from rfl, e, show 17 = 16 + 1 from rfl, e, show 21 = 16 + 5 from rfl, e, show 18 = 16 + 2 from rfl, e, show 22 = 16 + 6 from rfl, e, show 19 = 16 + 3 from rfl, e, show 23 = 16 + 7 from rfl, e] at this
  exact this
set_option maxHeartbeats 2000000 in
theorem put_row (s : ByteArray) (A : Option Addr) (c B : Nat) (body : List UInt8) (w : World) (hlay : Laid w) (hs : s.size ≤ 9223372036854775807) (hn : Frm.named s.data.toList = true) (hl : body.length ≤ 2048) (hb : BytesAt w B A body) (hB : B ≤ w.heap.size) (hc : body.length ≤ c) (hm : c ≤ maxLen) :
    Calls Tryd.prog 23 #[.string s, .slice A body.length c] w fun e w' => ∃ g, e = .returned (.tuple #[.slice (some ⟨g, 0, none⟩) (24 + body.length) (24 + body.length), .int .i64 0]) ∧ w.heap.size ≤ g ∧ Bk w' g 5 (bytesArr (Frm.put s.data.toList body)) ∧ Below w.heap.size w w' := by
  have HN := Lib.hid (named_any s w hs)
  rw [hn] at HN
  obtain ⟨_, hsl, _⟩ := named_len hn
  rw [str_len] at hsl
  obtain ⟨n, hnn⟩ : ∃ n, n = body.length := ⟨_, rfl⟩
  have HBL := Lib.hid hnn
  rw [← hnn] at hl hc ⊢
  have hmk := run_make_row' (P := Tryd.prog) 33 5 (.int .u8 0) 1 Tryd.underlying33 byte_info rfl .i64 .i64 (24 + n) (by omega) (by omega)
  rw [show ((24 + n : Nat) : Int) = 24 + (n : Int) by omega] at hmk
  have HBD := Lib.hid hb
  have HL := Lib.hid hlay
  unfold maxLen at hm
  have HM := Lib.hid hm
  clear hn hnn hb hlay hm
  go_enter Tryd.func23, Tryd.ntmps23
  go_wp2_with fail
  refine HN.out.mono ?_
  rintro e w1 ⟨rfl, hb1⟩
  have HB1 := Lib.hid hb1
  have hz1 := hb1.size
  clear hb1 HN
  go_wp2_with fail
  rw [made_zero]
  obtain ⟨w2, hw2⟩ : ∃ w2, w2 = w1.alloc (.cells (bytesArr (List.replicate (24 + n) 0)) 5) := ⟨_, rfl⟩
  rw [← hw2]
  have HK2 := Lib.hid (show Bk w2 w1.heap.size 5 (bytesArr (List.replicate (24 + n) 0)) by rw [hw2]; exact Bk.new _ _ _)
  have HB2 := Lib.hid (show Below w.heap.size w w2 by rw [hw2]; exact HB1.out.alloc hz1 _)
  have hz2 : w2.heap.size = w1.heap.size + 1 := by rw [hw2]; simp
  have HZ2 := Lib.hid hz2
  have hz2' : w1.heap.size < w2.heap.size := by omega
  clear hw2 hmk hz2
  refine (magic_any w2).mono ?_
  rintro e w3 ⟨rfl, hb3⟩
  have HK3 := Lib.hid (HK2.out.below hb3 hz2')
  have HB3 := Lib.hid (HB2.out.trans (hb3.mono HB2.out.size))
  have hz3 : w1.heap.size < w3.heap.size := HK3.out.lt
  clear hb3 HK2 HB2
  go_upto_region 7 with (fail)
  obtain ⟨w4, hw4⟩ : ∃ w4, w4 = w3.alloc (.cells #[.int .u8 196, .int .u8 240, .int .u8 122, .int .u8 30] 87) := ⟨_, rfl⟩
  rw [← hw4]
  have k4 : Bk w4 w1.heap.size 5 (bytesArr (List.replicate (24 + n) 0)) := by rw [hw4]; exact HK3.out.alloc _
  have m4 : Bk w4 w3.heap.size 87 (bytesArr Frm.magic) := by rw [hw4]; exact Bk.new _ _ _
  have HB4 := Lib.hid (show Below w.heap.size w w4 by rw [hw4]; exact HB3.out.alloc HB3.out.size _)
  obtain ⟨w5, hcp1, k5, hk5⟩ := copy_bytes w4 w1.heap.size 0 (24 + n) 4 w4.heap.size 4 (some ⟨w3.heap.size, 0, none⟩) _ Frm.magic k4 (m4.bytesAt m4.lt) rfl (by omega) (by simp; omega)
  have HB5 := Lib.hid (HB4.out.trans (hk5.below_from (B := w.heap.size) hz1 HB4.out.size))
  have e5 : (List.replicate (24 + n) (0 : UInt8)).take 0 ++ Frm.magic.take 4 ++ (List.replicate (24 + n) 0).drop (0 + 4) = Frm.magic ++ List.replicate (20 + n) 0 := by
    rw [List.take_zero, List.nil_append, List.drop_replicate, show 24 + n - (0 + 4) = 20 + n by omega]; rfl
  rw [e5] at k5
  obtain ⟨w6, hcp2, k6, hk6⟩ := copy_string w5 w1.heap.size 4 12 s _ k5 hsl (by simp [Frm.magic]; omega)
  have HB6 := Lib.hid (HB5.out.trans (hk6.below_from (B := w.heap.size) hz1 HB5.out.size))
  have e6 : (Frm.magic ++ List.replicate (20 + n) 0).take 4 ++ s.data.toList ++ (Frm.magic ++ List.replicate (20 + n) 0).drop (4 + s.size) = Frm.magic ++ s.data.toList ++ List.replicate (12 - s.size) 0 ++ (List.replicate 8 0 ++ List.replicate n 0) := by
    rw [List.take_left' (show Frm.magic.length = 4 from rfl), List.drop_append, List.drop_of_length_le (by simp [Frm.magic]), List.nil_append, List.drop_replicate, List.append_assoc (Frm.magic ++ s.data.toList), List.replicate_append_replicate, List.replicate_append_replicate]
    congr 2
    simp [Frm.magic]; omega
  rw [e6] at k6
  have HK6 := Lib.hid k6
  clear hw4 k4 m4 k5 hk5 e5 k6 hk6 e6 HB3 HK3 HB4 HB5
  go_wp2_with fail
  have HBA6 := HBD.out.below (HB6.out.mono hB)
  rw [HBL.out] at hl
  have HCK := Lib.hid (check_any A c B body w6 (HL.out.below HB6.out) HBA6 (Nat.le_trans hB HB6.out.size) (by rw [← HBL.out]; exact hc) (by unfold maxLen; exact HM.out) (by omega))
  rw [← HBL.out] at HCK hl
  refine HCK.out.mono ?_
  rintro e w7 ⟨rfl, hb7⟩
  have HK7 := Lib.hid (HK6.out.below hb7 HK6.out.lt)
  have HB7 := Lib.hid (HB6.out.trans (hb7.mono HB6.out.size))
  clear hb7 HCK HBA6 hcp1 hcp2 HK6 HB6
  generalize hsum : Sha.check body = sum at *
  have HSUM := Lib.hid hsum
  clear hsum
  have hsu := u32_lt sum
  go_wp2_with fail
  obtain ⟨P, hP⟩ : ∃ P, P = Frm.magic ++ s.data.toList ++ List.replicate (12 - s.size) 0 := ⟨_, rfl⟩
  have hk7 := HK7.out
  rw [← hP] at hk7
  have hPl : P.length = 16 := by rw [hP]; simp only [List.length_append, List.length_replicate, str_len]; simp [Frm.magic]; omega
  have q0 := eight_zero (j := 0) hk7 hPl (by omega)
  have q1 := eight_zero (j := 1) hk7 hPl (by omega)
  have q2 := eight_zero (j := 2) hk7 hPl (by omega)
  have q3 := eight_zero (j := 3) hk7 hPl (by omega)
  have q4 := eight_zero (j := 4) hk7 hPl (by omega)
  have q5 := eight_zero (j := 5) hk7 hPl (by omega)
  have q6 := eight_zero (j := 6) hk7 hPl (by omega)
  have q7 := eight_zero (j := 7) hk7 hPl (by omega)
  have qf := hk7.frozen
  have HPE := Lib.hid hP
  have HPL := Lib.hid hPl
  have HK := Lib.hid hk7
  clear hP hPl hk7 HK7
  have hput : Frm.put s.data.toList body = P ++ (Oct.le n 4 ++ Oct.le sum.toNat 4) ++ body := by
    rw [HPE.out, ← str_len, HBL.out, ← HSUM.out]; unfold Frm.put; simp only [List.append_assoc]
  have hputl : (Frm.put s.data.toList body).length = 24 + n := by
    rw [hput]; simp only [List.length_append, Oct.le_length, HPL.out]; rw [← HBL.out]
  have HPUT := Lib.hid hput
  have HPUTL := Lib.hid hputl
  clear hput hputl
  refine wp_loop_rounds 5 ?_
  rw [rounds_succ]
  go_wp2_with fail
  rw [rounds_succ]
  go_wp2_with fail
  rw [rounds_succ]
  go_wp2_with fail
  rw [rounds_succ]
  go_wp2_with fail
  rw [rounds_succ]
  go_upto_region 16 with (fail)
  obtain ⟨w8, hw8⟩ : ∃ w8, w8 = ((((((((w7.setCell ⟨w1.heap.size, 16, none⟩ (.int .u8 ((n : Int) % 256))).setCell ⟨w1.heap.size, 20, none⟩ (.int .u8 ((sum.toNat : Int) % 256))).setCell ⟨w1.heap.size, 17, none⟩ (.int .u8 ((n : Int) / 256))).setCell ⟨w1.heap.size, 21, none⟩ (.int .u8 ((sum.toNat : Int) / 256 % 256))).setCell ⟨w1.heap.size, 18, none⟩ (.int .u8 ((n : Int) / 65536))).setCell ⟨w1.heap.size, 22, none⟩ (.int .u8 ((sum.toNat : Int) / 65536 % 256))).setCell ⟨w1.heap.size, 19, none⟩ (.int .u8 ((n : Int) / 16777216))).setCell ⟨w1.heap.size, 23, none⟩ (.int .u8 ((sum.toNat : Int) / 16777216))) := ⟨_, rfl⟩
  rw [← hw8]
  have k8 : Bk w8 w1.heap.size 5 (bytesArr (P ++ (Oct.le n 4 ++ Oct.le sum.toNat 4 ++ List.replicate n 0))) := by
    as_aux_lemma =>
    rw [hw8]
    exact eight_set HK.out HPL.out n sum.toNat (by omega) hsu _ _ _ _ _ _ _ _ (by omega) (by omega) (by omega) (by omega) (by omega) (by omega) (by omega) (by omega)
  have hk78 : Kp (fun i => i = w1.heap.size) w7 w8 := by
    rw [hw8]
    exact Kp.setCell (S := fun i => i = w1.heap.size) (Kp.setCell (S := fun i => i = w1.heap.size) (Kp.setCell (S := fun i => i = w1.heap.size) (Kp.setCell (S := fun i => i = w1.heap.size) (Kp.setCell (S := fun i => i = w1.heap.size) (Kp.setCell (S := fun i => i = w1.heap.size) (Kp.setCell (S := fun i => i = w1.heap.size) (Kp.setCell (S := fun i => i = w1.heap.size) (Kp.refl _ w7) (fun _ => rfl) _) (fun _ => rfl) _) (fun _ => rfl) _) (fun _ => rfl) _) (fun _ => rfl) _) (fun _ => rfl) _) (fun _ => rfl) _) (fun _ => rfl) _
  have HB8 := Lib.hid (HB7.out.trans (hk78.below_from (B := w.heap.size) hz1 HB7.out.size))
  clear hk78 hw8 q0 q1 q2 q3 q4 q5 q6 q7 qf HK
  rcases Nat.eq_zero_or_pos n with h0 | h0
  · as_aux_lemma =>
    have hbn : body = [] := List.eq_nil_of_length_eq_zero (by rw [← HBL.out]; exact h0)
    obtain ⟨w9, hcp, k9, hk9⟩ := copy_bytes w8 w1.heap.size 0 0 0 B 0 A _ [] k8 (fun i hi => by simp at hi) rfl rfl (by simp)
    subst h0
    have HB9 := Lib.hid (HB8.out.trans (hk9.below_from (B := w.heap.size) hz1 HB8.out.size))
    have hrow : (P ++ (Oct.le 0 4 ++ Oct.le sum.toNat 4 ++ List.replicate 0 0)).take 0 ++ ([] : List UInt8).take 0 ++ (P ++ (Oct.le 0 4 ++ Oct.le sum.toNat 4 ++ List.replicate 0 0)).drop (0 + 0) = Frm.put s.data.toList body := by
      rw [HPUT.out, hbn]; simp
    rw [hrow] at k9
    have HK9 := Lib.hid k9
    clear k8 hk9 hrow k9 hbn
    go_wp2_with fail
    go_ret2
    exact ⟨w1.heap.size, rfl, hz1, HK9.out, HB9.out⟩
  · as_aux_lemma =>
    have hbb := (HBD.out.below (HB8.out.mono hB))
    obtain ⟨w9, hcp, k9, hk9⟩ := copy_bytes w8 w1.heap.size 24 n n B n A _ body k8 hbb HBL.out.symm (by omega) (by simp only [List.length_append, Oct.le_length, HPL.out, List.length_replicate]; omega)
    have HB9 := Lib.hid (HB8.out.trans (hk9.below_from (B := w.heap.size) hz1 HB8.out.size))
    have hl24 : (P ++ (Oct.le n 4 ++ Oct.le sum.toNat 4)).length = 24 := by simp only [List.length_append, Oct.le_length, HPL.out]
    have hrow : (P ++ (Oct.le n 4 ++ Oct.le sum.toNat 4 ++ List.replicate n 0)).take 24 ++ body.take n ++ (P ++ (Oct.le n 4 ++ Oct.le sum.toNat 4 ++ List.replicate n 0)).drop (24 + n) = Frm.put s.data.toList body := by
      rw [HPUT.out, ← List.append_assoc P, List.take_left' hl24, List.drop_of_length_le (by rw [List.length_append, hl24, List.length_replicate]; omega), List.append_nil, List.take_of_length_le (by rw [← HBL.out]; omega)]
    rw [hrow] at k9
    have HK9 := Lib.hid k9
    have h24 : ¬ (24 + n = 24) := by omega
    clear k8 hk9 hrow k9 hbb hl24
    go_wp2_with fail
    go_ret2
    exact ⟨w1.heap.size, rfl, hz1, HK9.out, HB9.out⟩
theorem put_yes (s : ByteArray) (A : Option Addr) (c B : Nat) (body : List UInt8) (w : World) (hlay : Laid w) (hs : s.size ≤ 9223372036854775807) (hn : Frm.named s.data.toList = true) (hl : body.length ≤ 2048) (hb : BytesAt w B A body) (hB : B ≤ w.heap.size) (hc : body.length ≤ c) (hm : c ≤ maxLen) :
    Calls Tryd.prog 23 #[.string s, .slice A body.length c] w fun e w' => ∃ v, e = .returned (.tuple #[v, .int .i64 0]) ∧ OwnB w' w.heap.size v (Frm.put s.data.toList body) ∧ Below w.heap.size w w' := by
  obtain ⟨_, hsl, _⟩ := named_len hn
  have hpl : (Frm.put s.data.toList body).length = 24 + body.length := by
    unfold Frm.put; simp only [List.length_append, List.length_replicate, Oct.le_length]; show 4 + _ + _ + 4 + 4 + _ = _; omega
  refine (put_row s A c B body w hlay hs hn hl hb hB hc hm).mono ?_
  rintro e w' ⟨g, rfl, hg, hk, hbw⟩
  refine ⟨_, rfl, ?_, hbw⟩
  have := hk.own (base := w.heap.size) hg (by rw [hpl]; simp [maxLen]; omega)
  rw [hpl] at this
  exact this
end Go.Proofs.YtanjlgkbjcienaaDoor
