/- FrA, merged: Frame, CopyB, FrP, FrL. -/
import Derived.Test.YtpacgblddeoheaaDoorOct
import Derived.Test.YtpacgblddeoheaaDoorShaSum3
import Derived.Lib.ConvBytes
import Derived.Test.YtpacgblddeoheaaDoorShaTwice
import Derived.Test.YtpacgblddeoheaaDoorOctU
import Derived.Lib.BufferWrite
import Derived.Laws.IdiomStrings
import Derived.Stop.BytesEq
/- Package frame: names. -/
namespace Go.Proofs.YtpacgblddeoheaaDoor.Frm
def letter (c : UInt8) : Bool := decide (97 ≤ c.toNat ∧ c.toNat ≤ 122)
def named (s : List UInt8) : Bool := decide (s ≠ []) && decide (s.length ≤ 12) && s.all letter
def magic : List UInt8 := [0xc4, 0xf0, 0x7a, 0x1e]
/-- a frame -/
def put (cmd body : List UInt8) : List UInt8 := magic ++ cmd ++ List.replicate (12 - cmd.length) 0 ++ Oct.le body.length 4 ++ Oct.le (Sha.check body).toNat 4 ++ body
def strip (b : List UInt8) : List UInt8 := (b.reverse.dropWhile (· == 0)).reverse
def name (b : List UInt8) : List UInt8 := if strip b = [] then [] else if (strip b).all letter then strip b else []
structure Head where
  cmd : List UInt8
  len : Nat
  sum : Nat
def head (b : List UInt8) : Head × Int :=
  if b.length ≠ 24 then (⟨[], 0, 0⟩, 2)
  else if b.take 4 ≠ magic then (⟨[], 0, 0⟩, 6)
  else if 2048 < Oct.val ((b.drop 16).take 4) then (⟨[], 0, 0⟩, 5)
  else (⟨name ((b.drop 4).take 12), Oct.val ((b.drop 16).take 4), Oct.val (b.drop 20)⟩, 0)
/-- what is read of bytes: a command, a body, how many bytes, an error's number -/
def get (b : List UInt8) : List UInt8 × List UInt8 × Nat × Int :=
  if b.length < 24 then ([], [], 0, 4)
  else
    let h := head (b.take 24)
    if h.2 ≠ 0 then ([], [], 0, h.2)
    else if b.length - 24 < h.1.len then ([], [], 0, 4)
    else
      let body := (b.drop 24).take h.1.len
      if h.1.cmd = [] then ([], [], 24 + h.1.len, 8)
      else if (Sha.check body).toNat ≠ h.1.sum then ([], [], 24 + h.1.len, 7)
      else (h.1.cmd, body, 24 + h.1.len, 0)
end Go.Proofs.YtpacgblddeoheaaDoor.Frm
namespace Go.Proofs.YtpacgblddeoheaaDoor
open Go.RowKit Go.Deep
set_option linter.unusedVariables false
set_option linter.unusedSimpArgs false
set_option maxRecDepth 100000
attribute [local go_sem ↓] Go.wp_at_zero Go.wp_at_succ
theorem ret_bool {a b : Bool} (h : a = b) : Ending.returned (.bool a) = .returned (.bool b) := by rw [h]
theorem all_take {l : List UInt8} {k : Nat} (hk : k < l.length) (p : UInt8 → Bool) (h : (l.take k).all p = true) (hp : p l[k] = true) : (l.take (k + 1)).all p = true := by
  rw [List.take_succ_eq_append_getElem hk, List.all_append, h]; simp [hp]
theorem letters_any (A : Option Addr) (n c B : Nat) (l : List UInt8) (w : World) (hl : l.length = n) (hn : n ≤ 9223372036854775807) (h : BytesAt w B A l) :
    Calls Tryd.prog 87 #[.slice A n c] w fun e w' => e = .returned (.bool (l.all Frm.letter)) ∧ w = w' := by
  subst hl
  have HH := Lib.hid h
  clear h
  go_enter Tryd.func87, Tryd.ntmps87
  go_wp2_with fail
  go_loop [7] (fun i => ∃ k : Nat, k ≤ l.length ∧ i = .int .i64 (k : Int) ∧ Hid ((l.take k).all Frm.letter = true)) (fun i => l.length - (intOf i).toNat)
  case atStart => exact ⟨0, Nat.zero_le _, rfl, Lib.hid rfl⟩
  case round =>
    obtain ⟨k, hk, rfl, ha⟩ := hrel
    by_cases hlt : k < l.length
    · obtain ⟨b, off, rfl, _, hc⟩ := HH.out.cell hlt
      have HN := Lib.hid (fun hp => all_take hlt Frm.letter ha.out hp)
      have HX : Hid (Frm.letter l[k] = false → l.all Frm.letter = false) := Lib.hid fun hp => by
        rw [List.all_eq_false]; exact ⟨l[k], List.getElem_mem hlt, by simp [hp]⟩
      generalize l[k] = x at *
      have hx := x.toNat_lt
      have HL := Lib.hid (show Frm.letter x = decide (97 ≤ x.toNat ∧ x.toNat ≤ 122) from rfl)
      go_wp2_with fail
      · have hgt : 25 < ((x.toNat : Int) - 97) % 256 := by assumption
        have hf : Frm.letter x = false := by rw [HL.out, decide_eq_false_iff_not]; omega
        go_ret
        exact ⟨ret_bool (HX.out hf).symm, rfl⟩
      · have hle : ¬ 25 < ((x.toNat : Int) - 97) % 256 := by first | assumption | (have : ((x.toNat : Int) - 97) % 256 ≤ 25 := by assumption); omega
        have ht : Frm.letter x = true := by rw [HL.out, decide_eq_true_eq]; omega
        go_round
        case rel => exact ⟨k + 1, by omega, by go_num, Lib.hid (HN.out ht)⟩
        case measure => simp [intOf]; omega
    · have hkl : k = l.length := by omega
      have HA := Lib.hid (show l.all Frm.letter = true by have := ha.out; rwa [hkl, List.take_of_length_le (Nat.le_refl _)] at this)
      clear ha hkl
      go_wp2_with fail
      go_ret
      exact ⟨ret_bool HA.out.symm, rfl⟩
theorem str_len (s : ByteArray) : s.data.toList.length = s.size := (Lib.size_eq s).symm
theorem str_empty (s : ByteArray) : s.toList.isEmpty = decide (s.data.toList = []) := by
  rw [← decide_eq_emptyBytes]
  congr 1
  rw [eq_iff_iff]
  constructor
  · rintro rfl; rfl
  · intro h
    have : s.data = #[] := by rw [← Array.toList_inj]; exact h
    obtain ⟨d⟩ := s
    simp only at this
    subst this
    rfl
theorem below_bytesWorld (w : World) (e : TypeId) (s : ByteArray) : Below w.heap.size w (Lib.bytesWorld w e s) :=
  ⟨rfl, rfl, rfl, by rw [Lib.bytesWorld_size]; omega, fun i hi => Lib.bytesWorld_at_old w e s i hi⟩
theorem bytesWorld_at (w : World) (e : TypeId) (s : ByteArray) : BytesAt (Lib.bytesWorld w e s) (w.heap.size + 1) (some ⟨w.heap.size, 0, none⟩) s.data.toList := by
  intro i hi
  refine ⟨w.heap.size, 0, [byteV s.data.toList[i]], rfl, by omega, rfl, fun j hj => ?_⟩
  have hj0 : j = 0 := by simpa using hj
  subst hj0
  have := Lib.bytesWorld_cell w e s i (by rw [← str_len]; exact hi)
  rw [Nat.zero_add, Nat.mul_one, Nat.add_zero, this]
  have hi' : i < s.data.size := by simpa using hi
  simp [byteV, List.getD_eq_getElem?_getD, Array.getElem?_eq_getElem hi']
theorem named_any (s : ByteArray) (w : World) (hs : s.size ≤ 9223372036854775807) : Calls Tryd.prog 67 #[.string s] w fun e w' => e = .returned (.bool (Frm.named s.data.toList)) ∧ Below w.heap.size w w' := by
  have hse := str_empty s
  have hsl := str_len s
  by_cases h0 : s.data.toList = []
  · have e1 : s.toList.isEmpty = true := by rw [hse]; simpa using h0
    have HF := Lib.hid (show Frm.named s.data.toList = false by rw [h0]; rfl)
    clear hse hsl h0
    go_enter Tryd.func67, Tryd.ntmps67
    go_wp2_with fail
    go_ret
    exact ⟨ret_bool HF.out.symm, Below.refl _ _⟩
  · have e1 : s.toList.isEmpty = false := by rw [hse]; simpa using h0
    by_cases h12 : s.size ≤ 12
    · obtain ⟨v, hv⟩ : ∃ v, v = s.data.toList.all Frm.letter := ⟨_, rfl⟩
      have h12' : (s.size : Int) ≤ 12 := by omega
      have HF := Lib.hid (show Frm.named s.data.toList = v by rw [hv]; unfold Frm.named; rw [hsl]; simp [h0, h12])
      have hcv := fun W => Lib.run_convert_string_bytes (P := Tryd.prog) W 9 22 5 s Tryd.underlying9 Tryd.underlying22 Tryd.underlying5
      have HLT := Lib.hid (letters_any _ s.size (grownCap w s.size 0 5) _ s.data.toList _ hsl (by omega) (bytesWorld_at w 5 s))
      rw [← hv] at HLT
      clear hse hsl h0 hv
      go_enter Tryd.func67, Tryd.ntmps67
      go_wp2_with fail
      refine HLT.out.mono ?_
      rintro e w1 ⟨rfl, rfl⟩
      go_wp2_with fail
      go_ret
      exact ⟨ret_bool HF.out.symm, below_bytesWorld _ _ _⟩
    · have HF := Lib.hid (show Frm.named s.data.toList = false by unfold Frm.named; rw [hsl]; simp [h12])
      have h12' : ¬ ((s.size : Int) ≤ 12) := by omega
      clear hse hsl h0
      go_enter Tryd.func67, Tryd.ntmps67
      go_wp2_with fail
      go_ret
      exact ⟨ret_bool HF.out.symm, Below.refl _ _⟩
end Go.Proofs.YtpacgblddeoheaaDoor
/- Bytes copied into a row of bytes. -/
namespace Go.Proofs.YtpacgblddeoheaaDoor
open Go.RowKit Go.Deep
set_option linter.unusedVariables false
set_option linter.unusedSimpArgs false
set_option maxRecDepth 100000
attribute [local go_sem ↓] Go.wp_at_zero Go.wp_at_succ

/-- bytes copied into a row of bytes -/
theorem copy_bytes_at (t : Nat) (W : World) (g o dLen sLen B k : Nat) (A : Option Addr) (row src : List UInt8) (hb : Bk W g t (bytesArr row)) (hs : BytesAt W B A src) (hl : src.length = sLen) (hk : k = min sLen dLen) (hfit : o + k ≤ row.length) :
    ∃ W2, (∀ ty dCap sCap, (Builtin.copy_ #[22, 22] ty #[.slice (some ⟨g, o, none⟩) dLen dCap, .slice A sLen sCap]).run Tryd.prog W = .ok (goInt k) W2) ∧
      Bk W2 g t (bytesArr (row.take o ++ src.take k ++ row.drop (o + k))) ∧ Kp (fun i => i = g) W W2 := by
  subst hl
  rcases Nat.eq_zero_or_pos k with h0 | h0
  · refine ⟨W, fun ty dCap sCap => ?_, ?_, Kp.refl _ _⟩
    · rw [h0]; exact run_copy_none W _ _ ty 5 _ _ dLen dCap src.length sCap Tryd.underlying22 info_u8 (by rw [← h0, hk])
    · rw [h0]; simpa using hb
  · obtain ⟨q, off, rfl, _, _⟩ := hs.cell (i := 0) (by omega)
    have hlk : (src.take k).length = k := by rw [List.length_take]; omega
    have hcl : ((src.take k).map byteV).length = k := by rw [List.length_map, hlk]
    have hsrc := BytesAt.src (BytesAt.take hs k)
    have hrun := fun ty dCap sCap => run_copy_row (P := Tryd.prog) W 22 22 ty 5 g o dLen dCap ⟨q, off, none⟩ src.length sCap (bytesArr row) t ((src.take k).map byteV)
      Tryd.underlying22 info_u8 hb (by rw [hcl, hk]) (fun j v hj => by obtain ⟨ad, ha, hc⟩ := hsrc j v hj; cases ha; exact hc) (by rw [hcl]; simpa [bytesArr] using hfit) (oneCell_bytes _)
    have hrow : ((bytesArr row).toList.take o ++ (src.take k).map byteV ++ (bytesArr row).toList.drop (o + k)).toArray = bytesArr (row.take o ++ src.take k ++ row.drop (o + k)) := by
      simp [bytesArr, List.map_take, List.map_drop]
    rw [hcl, hrow] at hrun
    exact ⟨_, hrun, setRow_heap _ _ _ _ _ _ hb, Kp.setRow (S := fun i => i = g) (Kp.refl _ _) (fun _ => rfl) _⟩
theorem copy_bytes (W : World) (g o dLen sLen B k : Nat) (A : Option Addr) (row src : List UInt8) (hb : Bk W g 5 (bytesArr row)) (hs : BytesAt W B A src) (hl : src.length = sLen) (hk : k = min sLen dLen) (hfit : o + k ≤ row.length) :
    ∃ W2, (∀ ty dCap sCap, (Builtin.copy_ #[22, 22] ty #[.slice (some ⟨g, o, none⟩) dLen dCap, .slice A sLen sCap]).run Tryd.prog W = .ok (goInt k) W2) ∧
      Bk W2 g 5 (bytesArr (row.take o ++ src.take k ++ row.drop (o + k))) ∧ Kp (fun i => i = g) W W2 := copy_bytes_at _ W g o dLen sLen B k A row src hb hs hl hk hfit
end Go.Proofs.YtpacgblddeoheaaDoor
/- Package frame: Put, the name, Head. -/
/- Package frame: a frame is put. -/
namespace Go.Proofs.YtpacgblddeoheaaDoor
open Go.RowKit Go.Deep
set_option linter.unusedVariables false
set_option linter.unusedSimpArgs false
set_option maxRecDepth 100000
attribute [local go_sem ↓] Go.wp_at_zero Go.wp_at_succ

theorem info_mark : (Tryd.prog.info? 153).map (·.size) = some 4 := by kernel_rfl
theorem magic_any (w : World) : Calls Tryd.prog 68 #[] w fun e w' => e = .returned (.agg #[.int .u8 196, .int .u8 240, .int .u8 122, .int .u8 30]) ∧ Below w.heap.size w w' := by
  go_enter Tryd.func68, Tryd.ntmps68
  go_wp2
  refine bodyPost_ret (results_cell_row rfl _ _ w.heap.size 153 #[.int .u8 196, .int .u8 240, .int .u8 122, .int .u8 30] (0, 0) _ rfl (Bk.new _ _ _) Tryd.underlying153 rfl info_mark) rfl ⟨rfl, ?_⟩
  exact Joins.below_alloc1 _ _
theorem copy_string (W : World) (g o dLen : Nat) (s : ByteArray) (row : List UInt8) (hb : Bk W g 5 (bytesArr row)) (hle : s.size ≤ dLen) (hfit : o + s.size ≤ row.length) :
    ∃ W2, (∀ ty dCap, (Builtin.copy_ #[22, 9] ty #[.slice (some ⟨g, o, none⟩) dLen dCap, .string s]).run Tryd.prog W = .ok (goInt s.size) W2) ∧
      Bk W2 g 5 (bytesArr (row.take o ++ s.data.toList ++ row.drop (o + s.size))) ∧ Kp (fun i => i = g) W W2 := by
  have hrun := fun ty dCap => Lib.run_copy_row_string (P := Tryd.prog) W 22 9 ty 5 g o dLen dCap s (bytesArr row) 5 Tryd.underlying22 info_u8 hb hle (by simpa [bytesArr] using hfit)
  have hrow : ((bytesArr row).toList.take o ++ Lib.byteCells s.data.toList ++ (bytesArr row).toList.drop (o + s.size)).toArray = bytesArr (row.take o ++ s.data.toList ++ row.drop (o + s.size)) := by
    simp [bytesArr, List.map_take, List.map_drop, Lib.byteCells, byteV]
  rw [hrow] at hrun
  exact ⟨_, hrun, setRow_heap _ _ _ _ _ _ hb, Kp.setRow (S := fun i => i = g) (Kp.refl _ _) (fun _ => rfl) _⟩
theorem put_unnamed (s : ByteArray) (A : Option Addr) (n c : Nat) (w : World) (hs : s.size ≤ 9223372036854775807) (hn : Frm.named s.data.toList = false) :
    Calls Tryd.prog 46 #[.string s, .slice A n c] w fun e w' => e = .returned (.tuple #[.slice none 0 0, .int .i64 8]) ∧ Below w.heap.size w w' := by
  have HN := Lib.hid (named_any s w hs)
  rw [hn] at HN
  clear hn
  go_enter Tryd.func46, Tryd.ntmps46
  go_wp2_with fail
  refine HN.out.mono ?_
  rintro e w1 ⟨rfl, hb⟩
  go_wp2_with fail
  go_ret2
  exact ⟨rfl, hb⟩
theorem put_long (s : ByteArray) (A : Option Addr) (n c : Nat) (w : World) (hs : s.size ≤ 9223372036854775807) (hn : Frm.named s.data.toList = true) (hl : 2048 < n) :
    Calls Tryd.prog 46 #[.string s, .slice A n c] w fun e w' => e = .returned (.tuple #[.slice none 0 0, .int .i64 5]) ∧ Below w.heap.size w w' := by
  have HN := Lib.hid (named_any s w hs)
  rw [hn] at HN
  have hl' : (2048 : Int) < (n : Int) := by omega
  clear hn
  go_enter Tryd.func46, Tryd.ntmps46
  go_wp2_with fail
  refine HN.out.mono ?_
  rintro e w1 ⟨rfl, hb⟩
  go_wp2_with fail
  go_ret2
  exact ⟨rfl, hb⟩
theorem named_len {l : List UInt8} (h : Frm.named l = true) : l ≠ [] ∧ l.length ≤ 12 ∧ l.all Frm.letter = true := by
  simpa [Frm.named, and_assoc] using h
theorem eight_zero {w : World} {g t n j : Nat} {P : List UInt8} (hb : Bk w g t (bytesArr (P ++ (List.replicate 8 0 ++ List.replicate n 0)))) (hP : P.length = 16) (hj : j < 8) : w.cell? ⟨g, 16 + j, none⟩ = some (.int .u8 0) := by
  rw [hb.cell]
  simp only [bytesArr, List.getElem?_toArray, List.getElem?_map]
  rw [List.getElem?_append_right (by omega), hP, show 16 + j - 16 = j by omega, List.getElem?_append_left (by simpa using hj), List.getElem?_replicate, if_pos hj]
  rfl
theorem le4 (x : Nat) (h : x < 4294967296) : Oct.le x 4 = [UInt8.ofNat x, UInt8.ofNat (x / 256), UInt8.ofNat (x / 65536), UInt8.ofNat (x / 16777216)] := by
  apply List.ext_getElem?
  intro k
  rcases Nat.lt_or_ge k 4 with hk | hk
  · rw [Oct.le_index x 4 k hk]
    have : k = 0 ∨ k = 1 ∨ k = 2 ∨ k = 3 := by omega
    rcases this with rfl | rfl | rfl | rfl <;> simp
  · rw [List.getElem?_eq_none (by rw [Oct.le_length]; exact hk), List.getElem?_eq_none (by simpa using hk)]
theorem eight_set {w : World} {g t n : Nat} {P : List UInt8} (hb : Bk w g t (bytesArr (P ++ (List.replicate 8 0 ++ List.replicate n 0)))) (hP : P.length = 16) (x y : Nat) (hx : x < 4294967296) (hy : y < 4294967296) (z0 z1 z2 z3 z4 z5 z6 z7 : Int)
    (h0 : z0 = ((x % 256 : Nat) : Int)) (h1 : z1 = ((x / 256 % 256 : Nat) : Int)) (h2 : z2 = ((x / 65536 % 256 : Nat) : Int)) (h3 : z3 = ((x / 16777216 % 256 : Nat) : Int))
    (h4 : z4 = ((y % 256 : Nat) : Int)) (h5 : z5 = ((y / 256 % 256 : Nat) : Int)) (h6 : z6 = ((y / 65536 % 256 : Nat) : Int)) (h7 : z7 = ((y / 16777216 % 256 : Nat) : Int)) :
    Bk ((((((((w.setCell ⟨g, 16, none⟩ (.int .u8 z0)).setCell ⟨g, 20, none⟩ (.int .u8 z4)).setCell ⟨g, 17, none⟩ (.int .u8 z1)).setCell ⟨g, 21, none⟩ (.int .u8 z5)).setCell ⟨g, 18, none⟩ (.int .u8 z2)).setCell ⟨g, 22, none⟩ (.int .u8 z6)).setCell ⟨g, 19, none⟩ (.int .u8 z3)).setCell ⟨g, 23, none⟩ (.int .u8 z7))
      g t (bytesArr (P ++ (Oct.le x 4 ++ Oct.le y 4 ++ List.replicate n 0))) := by
  rw [← byte_of_nat _ _ h0, ← byte_of_nat _ _ h1, ← byte_of_nat _ _ h2, ← byte_of_nat _ _ h3, ← byte_of_nat _ _ h4, ← byte_of_nat _ _ h5, ← byte_of_nat _ _ h6, ← byte_of_nat _ _ h7]
  have := (((((((hb.setByte 16 (UInt8.ofNat x)).setByte 20 (UInt8.ofNat y)).setByte 17 (UInt8.ofNat (x / 256))).setByte 21 (UInt8.ofNat (y / 256))).setByte 18 (UInt8.ofNat (x / 65536))).setByte 22 (UInt8.ofNat (y / 65536))).setByte 19 (UInt8.ofNat (x / 16777216))).setByte 23 (UInt8.ofNat (y / 16777216))
  rw [le4 x hx, le4 y hy]
  have e : ∀ (k : Nat) (c : UInt8) (r : List UInt8), (P ++ r).set (16 + k) c = P ++ r.set k c := fun k c r => by rw [List.set_append_right _ _ (by omega), hP, show 16 + k - 16 = k by omega]
  rw [show 16 = 16 + 0 from rfl, e, show 20 = 16 + 4 from rfl, e, show 17 = 16 + 1 from rfl, e, show 21 = 16 + 5 from rfl, e, show 18 = 16 + 2 from rfl, e, show 22 = 16 + 6 from rfl, e, show 19 = 16 + 3 from rfl, e, show 23 = 16 + 7 from rfl, e] at this
  exact this
set_option maxHeartbeats 2000000 in
theorem put_row (s : ByteArray) (A : Option Addr) (c B : Nat) (body : List UInt8) (w : World) (hlay : Laid w) (hs : s.size ≤ 9223372036854775807) (hn : Frm.named s.data.toList = true) (hl : body.length ≤ 2048) (hb : BytesAt w B A body) (hB : B ≤ w.heap.size) (hc : body.length ≤ c) (hm : c ≤ maxLen) :
    Calls Tryd.prog 46 #[.string s, .slice A body.length c] w fun e w' => ∃ g, e = .returned (.tuple #[.slice (some ⟨g, 0, none⟩) (24 + body.length) (24 + body.length), .int .i64 0]) ∧ w.heap.size ≤ g ∧ Bk w' g 5 (bytesArr (Frm.put s.data.toList body)) ∧ Below w.heap.size w w' := by
  have HN := Lib.hid (named_any s w hs)
  rw [hn] at HN
  obtain ⟨_, hsl, _⟩ := named_len hn
  rw [str_len] at hsl
  obtain ⟨n, hnn⟩ : ∃ n, n = body.length := ⟨_, rfl⟩
  have HBL := Lib.hid hnn
  rw [← hnn] at hl hc ⊢
  have hmk := run_make_row' (P := Tryd.prog) 22 5 (.int .u8 0) 1 Tryd.underlying22 byte_info rfl .i64 .i64 (24 + n) (by omega) (by omega)
  rw [show ((24 + n : Nat) : Int) = 24 + (n : Int) by omega] at hmk
  have HBD := Lib.hid hb
  have HL := Lib.hid hlay
  unfold maxLen at hm
  have HM := Lib.hid hm
  clear hn hnn hb hlay hm
  go_enter Tryd.func46, Tryd.ntmps46
  go_wp2_with fail
  refine HN.out.mono ?_
  rintro e w1 ⟨rfl, hb1⟩
  have HB1 := Lib.hid hb1
  have hz1 := hb1.size
  clear hb1 HN
  go_wp2_with fail
  rw [made_zero]
  obtain ⟨w2, hw2⟩ : ∃ w2, w2 = w1.alloc (.cells (bytesArr (List.replicate (24 + n) 0)) 5) := ⟨_, rfl⟩
  rw [← hw2]
  have HK2 := Lib.hid (show Bk w2 w1.heap.size 5 (bytesArr (List.replicate (24 + n) 0)) by rw [hw2]; exact Bk.new _ _ _)
  have HB2 := Lib.hid (show Below w.heap.size w w2 by rw [hw2]; exact HB1.out.alloc hz1 _)
  have hz2 : w2.heap.size = w1.heap.size + 1 := by rw [hw2]; simp
  have HZ2 := Lib.hid hz2
  have hz2' : w1.heap.size < w2.heap.size := by omega
  clear hw2 hmk hz2
  refine (magic_any w2).mono ?_
  rintro e w3 ⟨rfl, hb3⟩
  have HK3 := Lib.hid (HK2.out.below hb3 hz2')
  have HB3 := Lib.hid (HB2.out.trans (hb3.mono HB2.out.size))
  have hz3 : w1.heap.size < w3.heap.size := HK3.out.lt
  clear hb3 HK2 HB2
  go_upto_region 7 with (fail)
  obtain ⟨w4, hw4⟩ : ∃ w4, w4 = w3.alloc (.cells #[.int .u8 196, .int .u8 240, .int .u8 122, .int .u8 30] 153) := ⟨_, rfl⟩
  rw [← hw4]
  have k4 : Bk w4 w1.heap.size 5 (bytesArr (List.replicate (24 + n) 0)) := by rw [hw4]; exact HK3.out.alloc _
  have m4 : Bk w4 w3.heap.size 153 (bytesArr Frm.magic) := by rw [hw4]; exact Bk.new _ _ _
  have HB4 := Lib.hid (show Below w.heap.size w w4 by rw [hw4]; exact HB3.out.alloc HB3.out.size _)
  obtain ⟨w5, hcp1, k5, hk5⟩ := copy_bytes w4 w1.heap.size 0 (24 + n) 4 w4.heap.size 4 (some ⟨w3.heap.size, 0, none⟩) _ Frm.magic k4 (m4.bytesAt m4.lt) rfl (by omega) (by simp; omega)
  have HB5 := Lib.hid (HB4.out.trans (hk5.below_from (B := w.heap.size) hz1 HB4.out.size))
  have e5 : (List.replicate (24 + n) (0 : UInt8)).take 0 ++ Frm.magic.take 4 ++ (List.replicate (24 + n) 0).drop (0 + 4) = Frm.magic ++ List.replicate (20 + n) 0 := by
    rw [List.take_zero, List.nil_append, List.drop_replicate, show 24 + n - (0 + 4) = 20 + n by omega]; rfl
  rw [e5] at k5
  obtain ⟨w6, hcp2, k6, hk6⟩ := copy_string w5 w1.heap.size 4 12 s _ k5 hsl (by simp [Frm.magic]; omega)
  have HB6 := Lib.hid (HB5.out.trans (hk6.below_from (B := w.heap.size) hz1 HB5.out.size))
  have e6 : (Frm.magic ++ List.replicate (20 + n) 0).take 4 ++ s.data.toList ++ (Frm.magic ++ List.replicate (20 + n) 0).drop (4 + s.size) = Frm.magic ++ s.data.toList ++ List.replicate (12 - s.size) 0 ++ (List.replicate 8 0 ++ List.replicate n 0) := by
    rw [List.take_left' (show Frm.magic.length = 4 from rfl), List.drop_append, List.drop_of_length_le (by simp [Frm.magic]), List.nil_append, List.drop_replicate, List.append_assoc (Frm.magic ++ s.data.toList), List.replicate_append_replicate, List.replicate_append_replicate]
    congr 2
    simp [Frm.magic]; omega
  rw [e6] at k6
  have HK6 := Lib.hid k6
  clear hw4 k4 m4 k5 hk5 e5 k6 hk6 e6 HB3 HK3 HB4 HB5
  go_wp2_with fail
  have HBA6 := HBD.out.below (HB6.out.mono hB)
  rw [HBL.out] at hl
  have HCK := Lib.hid (check_any A c B body w6 (HL.out.below HB6.out) HBA6 (Nat.le_trans hB HB6.out.size) (by rw [← HBL.out]; exact hc) (by unfold maxLen; exact HM.out) (by omega))
  rw [← HBL.out] at HCK hl
  refine HCK.out.mono ?_
  rintro e w7 ⟨rfl, hb7⟩
  have HK7 := Lib.hid (HK6.out.below hb7 HK6.out.lt)
  have HB7 := Lib.hid (HB6.out.trans (hb7.mono HB6.out.size))
  clear hb7 HCK HBA6 hcp1 hcp2 HK6 HB6
  generalize hsum : Sha.check body = sum at *
  have HSUM := Lib.hid hsum
  clear hsum
  have hsu := u32_lt sum
  go_wp2_with fail
  obtain ⟨P, hP⟩ : ∃ P, P = Frm.magic ++ s.data.toList ++ List.replicate (12 - s.size) 0 := ⟨_, rfl⟩
  have hk7 := HK7.out
  rw [← hP] at hk7
  have hPl : P.length = 16 := by rw [hP]; simp only [List.length_append, List.length_replicate, str_len]; simp [Frm.magic]; omega
  have q0 := eight_zero (j := 0) hk7 hPl (by omega)
  have q1 := eight_zero (j := 1) hk7 hPl (by omega)
  have q2 := eight_zero (j := 2) hk7 hPl (by omega)
  have q3 := eight_zero (j := 3) hk7 hPl (by omega)
  have q4 := eight_zero (j := 4) hk7 hPl (by omega)
  have q5 := eight_zero (j := 5) hk7 hPl (by omega)
  have q6 := eight_zero (j := 6) hk7 hPl (by omega)
  have q7 := eight_zero (j := 7) hk7 hPl (by omega)
  have qf := hk7.frozen
  have HPE := Lib.hid hP
  have HPL := Lib.hid hPl
  have HK := Lib.hid hk7
  clear hP hPl hk7 HK7
  have hput : Frm.put s.data.toList body = P ++ (Oct.le n 4 ++ Oct.le sum.toNat 4) ++ body := by
    rw [HPE.out, ← str_len, HBL.out, ← HSUM.out]; unfold Frm.put; simp only [List.append_assoc]
  have hputl : (Frm.put s.data.toList body).length = 24 + n := by
    rw [hput]; simp only [List.length_append, Oct.le_length, HPL.out]; rw [← HBL.out]
  have HPUT := Lib.hid hput
  have HPUTL := Lib.hid hputl
  clear hput hputl
  refine wp_loop_rounds 5 ?_
  rw [rounds_succ]
  go_wp2_with fail
  rw [rounds_succ]
  go_wp2_with fail
  rw [rounds_succ]
  go_wp2_with fail
  rw [rounds_succ]
  go_wp2_with fail
  rw [rounds_succ]
  go_upto_region 16 with (fail)
  obtain ⟨w8, hw8⟩ : ∃ w8, w8 = ((((((((w7.setCell ⟨w1.heap.size, 16, none⟩ (.int .u8 ((n : Int) % 256))).setCell ⟨w1.heap.size, 20, none⟩ (.int .u8 ((sum.toNat : Int) % 256))).setCell ⟨w1.heap.size, 17, none⟩ (.int .u8 ((n : Int) / 256))).setCell ⟨w1.heap.size, 21, none⟩ (.int .u8 ((sum.toNat : Int) / 256 % 256))).setCell ⟨w1.heap.size, 18, none⟩ (.int .u8 ((n : Int) / 65536))).setCell ⟨w1.heap.size, 22, none⟩ (.int .u8 ((sum.toNat : Int) / 65536 % 256))).setCell ⟨w1.heap.size, 19, none⟩ (.int .u8 ((n : Int) / 16777216))).setCell ⟨w1.heap.size, 23, none⟩ (.int .u8 ((sum.toNat : Int) / 16777216))) := ⟨_, rfl⟩
  rw [← hw8]
  have k8 : Bk w8 w1.heap.size 5 (bytesArr (P ++ (Oct.le n 4 ++ Oct.le sum.toNat 4 ++ List.replicate n 0))) := by
    as_aux_lemma =>
    rw [hw8]
    exact eight_set HK.out HPL.out n sum.toNat (by omega) hsu _ _ _ _ _ _ _ _ (by omega) (by omega) (by omega) (by omega) (by omega) (by omega) (by omega) (by omega)
  have hk78 : Kp (fun i => i = w1.heap.size) w7 w8 := by
    rw [hw8]
    exact Kp.setCell (S := fun i => i = w1.heap.size) (Kp.setCell (S := fun i => i = w1.heap.size) (Kp.setCell (S := fun i => i = w1.heap.size) (Kp.setCell (S := fun i => i = w1.heap.size) (Kp.setCell (S := fun i => i = w1.heap.size) (Kp.setCell (S := fun i => i = w1.heap.size) (Kp.setCell (S := fun i => i = w1.heap.size) (Kp.setCell (S := fun i => i = w1.heap.size) (Kp.refl _ w7) (fun _ => rfl) _) (fun _ => rfl) _) (fun _ => rfl) _) (fun _ => rfl) _) (fun _ => rfl) _) (fun _ => rfl) _) (fun _ => rfl) _) (fun _ => rfl) _
  have HB8 := Lib.hid (HB7.out.trans (hk78.below_from (B := w.heap.size) hz1 HB7.out.size))
  clear hk78 hw8 q0 q1 q2 q3 q4 q5 q6 q7 qf HK
  rcases Nat.eq_zero_or_pos n with h0 | h0
  · as_aux_lemma =>
    have hbn : body = [] := List.eq_nil_of_length_eq_zero (by rw [← HBL.out]; exact h0)
    obtain ⟨w9, hcp, k9, hk9⟩ := copy_bytes w8 w1.heap.size 0 0 0 B 0 A _ [] k8 (fun i hi => by simp at hi) rfl rfl (by simp)
    subst h0
    have HB9 := Lib.hid (HB8.out.trans (hk9.below_from (B := w.heap.size) hz1 HB8.out.size))
    have hrow : (P ++ (Oct.le 0 4 ++ Oct.le sum.toNat 4 ++ List.replicate 0 0)).take 0 ++ ([] : List UInt8).take 0 ++ (P ++ (Oct.le 0 4 ++ Oct.le sum.toNat 4 ++ List.replicate 0 0)).drop (0 + 0) = Frm.put s.data.toList body := by
      rw [HPUT.out, hbn]; simp
    rw [hrow] at k9
    have HK9 := Lib.hid k9
    clear k8 hk9 hrow k9 hbn
    go_wp2_with fail
    go_ret2
    exact ⟨w1.heap.size, rfl, hz1, HK9.out, HB9.out⟩
  · as_aux_lemma =>
    have hbb := (HBD.out.below (HB8.out.mono hB))
    obtain ⟨w9, hcp, k9, hk9⟩ := copy_bytes w8 w1.heap.size 24 n n B n A _ body k8 hbb HBL.out.symm (by omega) (by simp only [List.length_append, Oct.le_length, HPL.out, List.length_replicate]; omega)
    have HB9 := Lib.hid (HB8.out.trans (hk9.below_from (B := w.heap.size) hz1 HB8.out.size))
    have hl24 : (P ++ (Oct.le n 4 ++ Oct.le sum.toNat 4)).length = 24 := by simp only [List.length_append, Oct.le_length, HPL.out]
    have hrow : (P ++ (Oct.le n 4 ++ Oct.le sum.toNat 4 ++ List.replicate n 0)).take 24 ++ body.take n ++ (P ++ (Oct.le n 4 ++ Oct.le sum.toNat 4 ++ List.replicate n 0)).drop (24 + n) = Frm.put s.data.toList body := by
      rw [HPUT.out, ← List.append_assoc P, List.take_left' hl24, List.drop_of_length_le (by rw [List.length_append, hl24, List.length_replicate]; omega), List.append_nil, List.take_of_length_le (by rw [← HBL.out]; omega)]
    rw [hrow] at k9
    have HK9 := Lib.hid k9
    have h24 : ¬ (24 + n = 24) := by omega
    clear k8 hk9 hrow k9 hbb hl24
    go_wp2_with fail
    go_ret2
    exact ⟨w1.heap.size, rfl, hz1, HK9.out, HB9.out⟩
theorem put_yes (s : ByteArray) (A : Option Addr) (c B : Nat) (body : List UInt8) (w : World) (hlay : Laid w) (hs : s.size ≤ 9223372036854775807) (hn : Frm.named s.data.toList = true) (hl : body.length ≤ 2048) (hb : BytesAt w B A body) (hB : B ≤ w.heap.size) (hc : body.length ≤ c) (hm : c ≤ maxLen) :
    Calls Tryd.prog 46 #[.string s, .slice A body.length c] w fun e w' => ∃ v, e = .returned (.tuple #[v, .int .i64 0]) ∧ OwnB w' w.heap.size v (Frm.put s.data.toList body) ∧ Below w.heap.size w w' := by
  obtain ⟨_, hsl, _⟩ := named_len hn
  have hpl : (Frm.put s.data.toList body).length = 24 + body.length := by
    unfold Frm.put; simp only [List.length_append, List.length_replicate, Oct.le_length]; show 4 + _ + _ + 4 + 4 + _ = _; omega
  refine (put_row s A c B body w hlay hs hn hl hb hB hc hm).mono ?_
  rintro e w' ⟨g, rfl, hg, hk, hbw⟩
  refine ⟨_, rfl, ?_, hbw⟩
  have := hk.own (base := w.heap.size) hg (by rw [hpl]; simp [maxLen]; omega)
  rw [hpl] at this
  exact this
end Go.Proofs.YtpacgblddeoheaaDoor
/- FrameR, merged: FrameName, FrameHead, FrameOut, FrameGet, FrameLaws. -/
/- Package frame: the name that stands in twelve bytes. -/
namespace Go.Proofs.YtpacgblddeoheaaDoor
open Go.RowKit Go.Deep
set_option linter.unusedVariables false
set_option linter.unusedSimpArgs false
set_option maxRecDepth 100000
attribute [local go_sem ↓] Go.wp_at_zero Go.wp_at_succ

theorem strip_of (l : List UInt8) (k : Nat) (hk : k ≤ l.length) (h0 : ∀ i (h : i < l.length), k ≤ i → l[i] = 0) (h1 : k = 0 ∨ ∃ h : k - 1 < l.length, l[k - 1] ≠ 0) : Frm.strip l = l.take k := by
  have e : l = l.take k ++ List.replicate (l.length - k) 0 := by
    apply List.ext_getElem
    · simp; omega
    · intro i hi hi'
      rcases Nat.lt_or_ge i k with h | h
      · rw [List.getElem_append_left (by rw [List.length_take]; omega)]; simp
      · rw [List.getElem_append_right (by rw [List.length_take]; omega), List.getElem_replicate]
        exact h0 i hi h
  unfold Frm.strip
  rw [e, List.reverse_append, List.reverse_replicate, List.dropWhile_append]
  have hr : (List.replicate (l.length - k) (0 : UInt8)).dropWhile (· == 0) = [] := by
    simp
  rw [hr]
  simp only [List.isEmpty_nil, if_true]
  rw [← e]
  rcases h1 with h1 | ⟨hlt, hne⟩
  · subst h1; simp
  · have hk0 : k ≠ 0 := by
      rintro rfl
      exact hne (h0 _ hlt (Nat.zero_le _))
    have : (l.take k).reverse = l[k - 1] :: (l.take (k - 1)).reverse := by
      have : l.take k = l.take (k - 1) ++ [l[k - 1]] := by
        conv => lhs; rw [show k = k - 1 + 1 by omega]
        exact List.take_succ_eq_append_getElem hlt
      rw [this, List.reverse_append]; rfl
    rw [this, List.dropWhile_cons_of_neg (by simpa using hne), ← this, List.reverse_reverse]
set_option maxHeartbeats 400000 in
theorem name_any (q off c B : Nat) (l : List UInt8) (n : Nat) (w : World) (hl : l.length = n) (hn : n ≤ 1000) (hc : n ≤ c) (h : BytesAt w B (some ⟨q, off, none⟩) l) :
    Calls Tryd.prog 73 #[.slice (some ⟨q, off, none⟩) n c] w fun e w' => e = .returned (.string ⟨(Frm.name l).toArray⟩) ∧ w = w' := by
  have HH := Lib.hid h
  have HLN := Lib.hid hl
  clear h hl
  go_enter Tryd.func73, Tryd.ntmps73
  go_wp2_with fail
  go_loop [3] (fun i => ∃ k : Nat, k ≤ n ∧ i = .int .i64 (k : Int) ∧ Hid (∀ i (h : i < l.length), k ≤ i → l[i] = 0)) (fun i => (intOf i).toNat)
  case atStart => exact ⟨n, Nat.le_refl _, rfl, Lib.hid fun i h hi => by have := HLN.out; omega⟩
  case round =>
    obtain ⟨k, hk, rfl, hz⟩ := hrel
    rcases Nat.eq_zero_or_pos k with h0 | h0
    · subst h0
      have HF := Lib.hid (show Frm.name l = [] by unfold Frm.name; rw [strip_of l 0 (Nat.zero_le _) (fun i h hi => hz.out i h hi) (.inl rfl)]; simp)
      clear hz
      go_wp2_with fail
      go_ret
      exact ⟨by rw [HF.out]; rfl, rfl⟩
    · have hkl : k - 1 < l.length := by have := HLN.out; omega
      obtain ⟨q', off', hA, _, hcell⟩ := HH.out.cell hkl
      cases hA
      have hk1 : ((k : Int) - 1) = ((k - 1 : Nat) : Int) := by omega
      by_cases hb : l[k - 1] = 0
      · rw [hb] at hcell
        have HZ := Lib.hid (show ∀ i (h : i < l.length), k - 1 ≤ i → l[i] = 0 from fun i h hi => by
          rcases Nat.lt_or_ge i k with h' | h'
          · obtain rfl : i = k - 1 := by omega
            exact hb
          · exact hz.out i h h')
        clear hb hz
        go_wp2_with fail
        go_round
        case rel => exact ⟨k - 1, by omega, rfl, HZ⟩
        case measure => simp [intOf]; omega
      · have hk' : k ≤ n := hk
        have hst := strip_of l k (by have := HLN.out; omega) (fun i h hi => hz.out i h hi) (.inr ⟨hkl, hb⟩)
        have hne : ((l[k - 1].toNat : Int) == 0) = false := by
          rw [beq_eq_false_iff_ne]
          intro e
          apply hb
          apply UInt8.toNat_inj.1
          show l[k - 1].toNat = 0
          omega
        have htl : (l.take k).length = k := by rw [List.length_take]; have := HLN.out; omega
        have hbt := BytesAt.take HH.out k
        have HLT := Lib.hid (letters_any (some ⟨q, off, none⟩) k c B (l.take k) w htl (by omega) hbt)
        have hcb := run_convert_bytes_back (P := Tryd.prog) w 22 9 5 ⟨q, off, none⟩ c (l.take k) Tryd.underlying22 Tryd.underlying5 Tryd.underlying9 (fun j hj => by
          obtain ⟨q2, off2, hA2, _, hc2⟩ := hbt.cell hj
          cases hA2
          have e : (⟨q, off, none⟩ : Addr).add j = ⟨q, off + j, none⟩ := by unfold Addr.add; split <;> simp_all
          rw [e]; exact hc2)
        rw [htl] at hcb
        have hk0n : ¬ (k = 0) := by omega
        have hk0 : ((k : Int) == 0) = false := by rw [beq_eq_false_iff_ne]; omega
        have HS := Lib.hid hst
        have hkc : k ≤ c := by omega
        generalize hx : l[k - 1] = x at *
        cases hall : (l.take k).all Frm.letter with
        | true =>
          rw [hall] at HLT
          have HF := Lib.hid (show Frm.name l = l.take k by unfold Frm.name; rw [HS.out, hall, if_neg (by intro e; rw [e] at htl; simp at htl; omega), if_pos rfl])
          generalize hts : (l.take k) = ts at *
          clear hall hz hb hst htl hbt hx hts
          go_wp2_with fail
          refine HLT.out.mono ?_
          rintro e w1 ⟨rfl, rfl⟩
          go_wp2_with fail
          go_ret
          exact ⟨by rw [HF.out]; rfl, rfl⟩
        | false =>
          rw [hall] at HLT
          have HF := Lib.hid (show Frm.name l = [] by unfold Frm.name; rw [HS.out, hall, if_neg (by intro e; rw [e] at htl; simp at htl; omega), if_neg (by simp)])
          generalize hts : (l.take k) = ts at *
          clear hall hz hb hst htl hbt hx hts hcb
          go_wp2_with fail
          refine HLT.out.mono ?_
          rintro e w1 ⟨rfl, rfl⟩
          go_wp2_with fail
          go_ret
          exact ⟨by rw [HF.out]; rfl, rfl⟩
end Go.Proofs.YtpacgblddeoheaaDoor
/- Package frame: a head is read. -/
namespace Go.Proofs.YtpacgblddeoheaaDoor
open Go.RowKit Go.Deep
set_option linter.unusedVariables false
set_option linter.unusedSimpArgs false
set_option maxRecDepth 100000
attribute [local go_sem ↓] Go.wp_at_zero Go.wp_at_succ

def headV (h : Frm.Head × Int) : Value := .tuple #[.agg #[.string ⟨h.1.cmd.toArray⟩, .int .i64 (h.1.len : Int), .int .u32 (h.1.sum : Int)], .int .i64 h.2]
theorem info_head : (Tryd.prog.info? 119).map (·.size) = some 3 := by kernel_rfl
theorem head_short (A : Option Addr) (n c : Nat) (l : List UInt8) (w : World) (hl : l.length = n) (h : n ≠ 24) :
    Calls Tryd.prog 50 #[.slice A n c] w fun e w' => e = .returned (headV (Frm.head l)) ∧ Below w.heap.size w w' := by
  have HF := Lib.hid (show Frm.head l = (⟨[], 0, 0⟩, 2) by unfold Frm.head; rw [if_pos (by rw [hl]; exact h)])
  have h' : ((n : Int) != 24) = true := by rw [bne_iff_ne]; omega
  clear hl h
  go_enter Tryd.func50, Tryd.ntmps50
  go_wp2_with fail
  refine bodyPost_ret (results_cell_tmp_row rfl _ _ w.heap.size 119 #[.string ⟨#[]⟩, .int .i64 0, .int .u32 0] (0, 0) _ rfl (Bk.new _ _ _) Tryd.underlying119 rfl info_head (.int .i64 2) rfl) rfl ⟨?_, ?_⟩
  · rw [HF.out]; rfl
  · exact Joins.below_alloc1 _ _
set_option maxHeartbeats 400000 in
theorem head_yes (q off c B : Nat) (l : List UInt8) (w : World) (hl : l.length = 24) (h : BytesAt w B (some ⟨q, off, none⟩) l) (hB : B ≤ w.heap.size) (hc : 24 ≤ c) :
    Calls Tryd.prog 50 #[.slice (some ⟨q, off, none⟩) 24 c] w fun e w' => e = .returned (headV (Frm.head l)) ∧ Below w.heap.size w w' := by
  have HH := Lib.hid h
  have HLN := Lib.hid hl
  clear h hl
  go_enter Tryd.func50, Tryd.ntmps50
  go_upto_region 4 with (fail)
  obtain ⟨w2, hw2⟩ : ∃ w2, w2 = (w.alloc (.cells #[.string ⟨#[]⟩, .int .i64 0, .int .u32 0] 119)).alloc (.cells #[.int .u8 0, .int .u8 0, .int .u8 0, .int .u8 0] 153) := ⟨_, rfl⟩
  rw [← hw2]
  have r2 : Bk w2 w.heap.size 119 #[.string ⟨#[]⟩, .int .i64 0, .int .u32 0] := by rw [hw2]; exact (Bk.new w _ _).alloc _
  have m2 : Bk w2 (w.heap.size + 1) 153 (bytesArr (List.replicate 4 0)) := by rw [hw2]; exact Bk.new_at _ _ _ (by simp)
  have b2 : Below w.heap.size w w2 := by rw [hw2]; exact Joins.below_alloc2 _ _ _
  obtain ⟨w3, hcp, m3, hk3⟩ := copy_bytes_at 153 w2 (w.heap.size + 1) 0 4 24 B 4 (some ⟨q, off, none⟩) _ l m2 (HH.out.below (b2.mono hB)) HLN.out rfl (by simp)
  have e3 : (List.replicate 4 (0 : UInt8)).take 0 ++ l.take 4 ++ (List.replicate 4 0).drop (0 + 4) = l.take 4 := by simp
  rw [e3] at m3
  have HB3 := Lib.hid (b2.trans (hk3.below_from (B := w.heap.size) (by omega) b2.size))
  have HR3 := Lib.hid (r2.kp hk3 (by omega))
  have hz3 : w.heap.size < w3.heap.size := HR3.out.lt
  obtain ⟨x0, x1, x2, x3, ht⟩ : ∃ x0 x1 x2 x3, l.take 4 = [x0, x1, x2, x3] := by
    have hl4 : (l.take 4).length = 4 := by rw [List.length_take, HLN.out]; rfl
    match h : l.take 4, hl4 with
    | [x0, x1, x2, x3], _ => exact ⟨x0, x1, x2, x3, rfl⟩
  rw [ht] at m3
  have HT := Lib.hid ht
  have HLT3 := Lib.hid m3.lt
  have a0 := m3.cell 0
  have a1 := m3.cell 1
  have a2 := m3.cell 2
  have a3 := m3.cell 3
  simp only [bytesArr, byteV, List.map_cons, List.map_nil, List.getElem?_toArray, List.getElem?_cons_zero, List.getElem?_cons_succ] at a0 a1 a2 a3
  obtain ⟨b, hb⟩ : ∃ b, b = ([x0, x1, x2, x3] == Frm.magic) := ⟨_, rfl⟩
  have hq : ∀ W, (Op.equalIn 10000 153 (.agg #[.int .u8 (x0.toNat : Int), .int .u8 (x1.toNat : Int), .int .u8 (x2.toNat : Int), .int .u8 (x3.toNat : Int)]) (.agg #[.int .u8 196, .int .u8 240, .int .u8 122, .int .u8 30])).run Tryd.prog W = .ok b W := fun W => by
    rw [hb]
    exact run_equalIn_bytes W 9998 153 5 4 Tryd.underlying153 Tryd.underlying5 (fun W => by kernel_rfl) [x0, x1, x2, x3] Frm.magic rfl rfl
  have HBB := Lib.hid hb
  clear hb
  clear hw2 r2 m2 b2 hk3 e3 m3 ht
  go_wp2_with fail
  clear hcp
  go_region_held3 (fun w' => w'.cell? ⟨w.heap.size + 1, 0, none⟩ = some (.int .u8 (x0.toNat : Int)) ∧ w'.cell? ⟨w.heap.size + 1, 1, none⟩ = some (.int .u8 (x1.toNat : Int)) ∧ w'.cell? ⟨w.heap.size + 1, 2, none⟩ = some (.int .u8 (x2.toNat : Int)) ∧ w'.cell? ⟨w.heap.size + 1, 3, none⟩ = some (.int .u8 (x3.toNat : Int)))
    (first | go_keep | exact ⟨(hbm.cell (p := ⟨w.heap.size + 1, 0, none⟩) HLT3.out).trans a0, (hbm.cell (p := ⟨w.heap.size + 1, 1, none⟩) HLT3.out).trans a1, (hbm.cell (p := ⟨w.heap.size + 1, 2, none⟩) HLT3.out).trans a2, (hbm.cell (p := ⟨w.heap.size + 1, 3, none⟩) HLT3.out).trans a3⟩) ((go_at_call 68; refine (magic_any _).mono ?_; rintro e w' ⟨rfl, hbm⟩))
  have HB4 := Lib.hid (HB3.out.drew.trans (hbm.mono (Nat.le_trans HB3.out.size (by simp))))
  have HR4 := Lib.hid (HR3.out.drew.below hbm (by simpa using hz3))
  obtain ⟨w4, hw4⟩ : ∃ w4, w4 = w' := ⟨_, rfl⟩
  rw [← hw4] at HB4 HR4 ⊢
  have r0 := HR4.out.cell 0
  have r1 := HR4.out.cell 1
  have r2 := HR4.out.cell 2
  have rf := HR4.out.frozen
  simp only [List.getElem?_toArray, List.getElem?_cons_zero, List.getElem?_cons_succ] at r0 r1 r2
  have hset : ∀ (y0 y1 y2 : Value), Hid (Bk (((w4.setCell ⟨w.heap.size, 0, none⟩ y0).setCell ⟨w.heap.size, 1, none⟩ y1).setCell ⟨w.heap.size, 2, none⟩ y2) w.heap.size 119 #[y0, y1, y2]) := fun y0 y1 y2 => Lib.hid (by
    have := ((HR4.out.set 0 y0).set 1 y1).set 2 y2
    simpa using this)
  have hlow : ∀ (y0 y1 y2 : Value), Hid (Below w.heap.size w (((w4.setCell ⟨w.heap.size, 0, none⟩ y0).setCell ⟨w.heap.size, 1, none⟩ y1).setCell ⟨w.heap.size, 2, none⟩ y2)) := fun y0 y1 y2 => Lib.hid (((HB4.out.setCell (Nat.le_refl _) _).setCell (Nat.le_refl _) _).setCell (Nat.le_refl _) _)
  clear hw4 hbm a0 a1 a2 a3
  cases b with
  | false =>
    have HF := Lib.hid (show Frm.head l = (⟨[], 0, 0⟩, 6) by
      unfold Frm.head
      rw [if_neg (by rw [HLN.out]; simp), if_pos (by rw [HT.out]; intro e; have := HBB.out; rw [e] at this; simp at this)])
    go_wp2_with fail
    refine bodyPost_ret (results_cell_tmp_row rfl _ _ w.heap.size 119 #[.string ⟨#[]⟩, .int .i64 0, .int .u32 0] (0, 0) _ rfl (hset _ _ _).out Tryd.underlying119 rfl info_head (.int .i64 6) rfl) rfl ⟨?_, ?_⟩
    · rw [HF.out]; rfl
    · exact (hlow _ _ _).out
  | true =>
    have hmag : l.take 4 = Frm.magic := by rw [HT.out]; simpa using HBB.out.symm
    have HAT := HH.out.below (HB4.out.mono hB)
    have hat16 := BytesAt.take (BytesAt.drop HAT 16) 4
    have hat20 := BytesAt.drop HAT 20
    have hat4 := BytesAt.take (BytesAt.drop HAT 4) 12
    have l16 : ((l.drop 16).take 4).length = 4 := by rw [List.length_take, List.length_drop, HLN.out]; rfl
    have l20 : (l.drop 20).length = 4 := by rw [List.length_drop, HLN.out]
    have l4 : ((l.drop 4).take 12).length = 12 := by rw [List.length_take, List.length_drop, HLN.out]; rfl
    have v16 := Oct.val_lt ((l.drop 16).take 4)
    have v20 := Oct.val_lt (l.drop 20)
    have G16 : ∀ cap, Hid _ := fun cap => Lib.hid (oget_yes (some ⟨q, off + 16, none⟩) cap B ((l.drop 16).take 4) (.inr (.inr (.inl l16))) w4 hat16)
    have G20 : ∀ cap, Hid _ := fun cap => Lib.hid (oget_yes (some ⟨q, off + 20, none⟩) cap B (l.drop 20) (.inr (.inr (.inl l20))) w4 hat20)
    rw [l16] at G16 v16
    rw [l20] at G20 v20
    obtain ⟨x, hx⟩ : ∃ x, x = Oct.val ((l.drop 16).take 4) := ⟨_, rfl⟩
    obtain ⟨y, hy⟩ : ∃ y, y = Oct.val (l.drop 20) := ⟨_, rfl⟩
    rw [← hx] at G16 v16
    rw [← hy] at G20 v20
    have GN : ∀ cap (h : 12 ≤ cap), Hid _ := fun cap h => Lib.hid (name_any q (off + 4) cap B ((l.drop 4).take 12) 12 w4 l4 (by omega) h hat4)
    obtain ⟨nm, hnm⟩ : ∃ nm, nm = Frm.name ((l.drop 4).take 12) := ⟨_, rfl⟩
    rw [← hnm] at GN
    have hx' : x < 4294967296 := by simpa using v16
    have hy' : y < 4294967296 := by simpa using v20
    have HX := Lib.hid hx
    have HY := Lib.hid hy
    have HNM := Lib.hid hnm
    have HMG := Lib.hid hmag
    have n16 : ¬ (c = 16) := by omega
    have n20 : ¬ (c = 20) := by omega
    have n4 : ¬ (c = 4) := by omega
    clear hmag HAT hat16 hat20 hat4 l16 l20 l4 v16 v20 hx hy hnm
    go_wp2_with fail
    refine (G16 _).out.mono ?_
    rintro e w5 ⟨rfl, rfl⟩
    go_wp2_with fail
    refine (G20 _).out.mono ?_
    rintro e w5 ⟨rfl, rfl⟩
    by_cases hbig : 2048 < x
    · have hbig' : (2048 : Int) < (x : Int) := by omega
      have HF := Lib.hid (show Frm.head l = (⟨[], 0, 0⟩, 5) by
        unfold Frm.head
        rw [if_neg (by rw [HLN.out]; simp), if_neg (by rw [HMG.out]; simp), if_pos (by rw [← HX.out]; exact hbig)])
      go_wp2_with fail
      refine bodyPost_ret (results_cell_tmp_row rfl _ _ w.heap.size 119 #[.string ⟨#[]⟩, .int .i64 0, .int .u32 0] (0, 0) _ rfl (hset _ _ _).out Tryd.underlying119 rfl info_head (.int .i64 5) rfl) rfl ⟨?_, ?_⟩
      · rw [HF.out]; rfl
      · exact (hlow _ _ _).out
    · have hbig' : ¬ (2048 : Int) < (x : Int) := by omega
      have HF := Lib.hid (show Frm.head l = (⟨nm, x, y⟩, 0) by
        unfold Frm.head
        rw [if_neg (by rw [HLN.out]; simp), if_neg (by rw [HMG.out]; simp), if_neg (by rw [← HX.out]; exact hbig), ← HX.out, ← HY.out, ← HNM.out])
      go_wp2_with fail
      refine (GN _ (by omega)).out.mono ?_
      rintro e w5 ⟨rfl, rfl⟩
      go_wp2_with fail
      refine bodyPost_ret (results_cell_tmp_row rfl _ _ w.heap.size 119 #[.string ⟨nm.toArray⟩, .int .i64 (x : Int), .int .u32 (y : Int)] (0, 0) _ rfl (hset _ _ _).out Tryd.underlying119 rfl info_head (.int .i64 0) rfl) rfl ⟨?_, ?_⟩
      · rw [HF.out]; rfl
      · exact (hlow _ _ _).out
end Go.Proofs.YtpacgblddeoheaaDoor
/- Frames in plain Lean. -/
/- Package frame: what Get answers. -/
namespace Go.Proofs.YtpacgblddeoheaaDoor
open Go.RowKit Go.Deep
set_option linter.unusedVariables false
set_option linter.unusedSimpArgs false
set_option maxRecDepth 100000
attribute [local go_sem ↓] Go.wp_at_zero Go.wp_at_succ

def GetOut (w w' : World) (g : List UInt8 × List UInt8 × Nat × Int) (e : Ending) : Prop :=
  ∃ v, e = .returned (.tuple #[.string ⟨g.1.toArray⟩, v, .int .i64 (g.2.2.1 : Int), .int .i64 g.2.2.2]) ∧ OwnB w' w.heap.size v g.2.1 ∧ Below w.heap.size w w'
theorem GetOut.nil {w w' : World} {n : Nat} {x : Int} {g : List UInt8 × List UInt8 × Nat × Int} (hg : g = ([], [], n, x)) (h : Below w.heap.size w w') : GetOut w w' g (.returned (.tuple #[.string ⟨#[]⟩, .slice none 0 0, .int .i64 (n : Int), .int .i64 x])) := by
  subst hg; exact ⟨_, rfl, own_nil _ _, h⟩
theorem results_tmp4 {fn : Func} {t u v x : Tmp} (h : fn.results = #[.tmp t, .tmp u, .tmp v, .tmp x]) (tmps : Array Value) (P : Program) (w : World) :
    (results fn tmps).run P w = .ok (.tuple #[tmps.getD t undef, tmps.getD u undef, tmps.getD v undef, tmps.getD x undef]) w := by
  simp [results, h]
theorem str_back (s : ByteArray) : (⟨s.data.toList.toArray⟩ : ByteArray) = s := by obtain ⟨d⟩ := s; simp
theorem own_low {w w' : World} {B base : Nat} {e : TypeId} {size : Nat} {v : Value} {n : Nat} {xs : List Value} (hg : w.grownBy w' v.ownBlock) (h : w.ownsRow base e size v n xs) (hB : B ≤ base) (hs : B ≤ w.heap.size) : Below B w w' :=
  ⟨hg.os, hg.tape, hg.output, hg.size, fun i hi => hg.block i (by omega) (fun e => by have := (h.lt i e.symm).1; omega)⟩
end Go.Proofs.YtpacgblddeoheaaDoor
/- Frames in plain Lean: what is put is got; cut off it is too short. -/
set_option linter.unusedVariables false
set_option linter.unusedSimpArgs false
namespace Go.Proofs.YtpacgblddeoheaaDoor.Frm
theorem strip_zeros (l : List UInt8) (n : Nat) (h : l = [] ∨ ∃ h : l.length - 1 < l.length, l[l.length - 1] ≠ 0) : strip (l ++ List.replicate n 0) = l := by
  rw [strip_of (l ++ List.replicate n 0) l.length (by simp)]
  · simp
  · intro i hi hk
    rw [List.getElem_append_right hk, List.getElem_replicate]
  · rcases h with rfl | ⟨hlt, hne⟩
    · exact .inl rfl
    · refine .inr ⟨by rw [List.length_append]; omega, ?_⟩
      rw [List.getElem_append_left hlt]
      exact hne
theorem named_last {l : List UInt8} (h : named l = true) : l = [] ∨ ∃ h : l.length - 1 < l.length, l[l.length - 1] ≠ 0 := by
  obtain ⟨h0, _, ha⟩ := named_len h
  have hl : 0 < l.length := List.length_pos_iff.2 h0
  refine .inr ⟨by omega, fun e => ?_⟩
  have := List.all_eq_true.1 ha _ (List.getElem_mem (show l.length - 1 < l.length by omega))
  rw [e] at this
  exact absurd this (by decide)
theorem name_zeros {l : List UInt8} (n : Nat) (h : named l = true) : name (l ++ List.replicate n 0) = l := by
  obtain ⟨h0, _, ha⟩ := named_len h
  unfold name
  rw [strip_zeros l n (named_last h), if_neg h0, if_pos ha]
def headOf (cmd : List UInt8) (n s : Nat) : List UInt8 := magic ++ cmd ++ List.replicate (12 - cmd.length) 0 ++ Oct.le n 4 ++ Oct.le s 4
theorem headOf_len {cmd : List UInt8} (h : cmd.length ≤ 12) (n s : Nat) : (headOf cmd n s).length = 24 := by
  simp only [headOf, List.length_append, List.length_replicate, Oct.le_length]
  show 4 + _ + _ + 4 + 4 = 24
  omega
theorem put_head (cmd body : List UInt8) : put cmd body = headOf cmd body.length (Sha.check body).toNat ++ body := rfl
theorem head_of {cmd : List UInt8} (h : named cmd = true) (n s : Nat) (hn : n < 4294967296) (hs : s < 4294967296) :
    head (headOf cmd n s) = if 2048 < n then (⟨[], 0, 0⟩, 5) else (⟨cmd, n, s⟩, 0) := by
  obtain ⟨_, h12, _⟩ := named_len h
  have hl := headOf_len h12 n s
  have e4 : (headOf cmd n s).take 4 = magic := by
    simp only [headOf, List.append_assoc]; exact List.take_left' rfl
  have p16 : (magic ++ cmd ++ List.replicate (12 - cmd.length) (0 : UInt8)).length = 16 := by
    simp only [List.length_append, List.length_replicate]; show 4 + _ + _ = 16; omega
  have e16 : (headOf cmd n s).drop 16 = Oct.le n 4 ++ Oct.le s 4 := by
    unfold headOf; rw [List.append_assoc, List.drop_left' p16]
  have e16' : ((headOf cmd n s).drop 16).take 4 = Oct.le n 4 := by rw [e16]; exact List.take_left' (Oct.le_length _ _)
  have e20 : (headOf cmd n s).drop 20 = Oct.le s 4 := by
    rw [show 20 = 16 + 4 from rfl, ← List.drop_drop, e16]; exact List.drop_left' (Oct.le_length _ _)
  have e412 : ((headOf cmd n s).drop 4).take 12 = cmd ++ List.replicate (12 - cmd.length) 0 := by
    simp only [headOf, List.append_assoc]
    rw [List.drop_left' (show magic.length = 4 from rfl), ← List.append_assoc]
    exact List.take_left' (by rw [List.length_append, List.length_replicate]; omega)
  have vn : Oct.val (Oct.le n 4) = n := by rw [Oct.val_le]; exact Nat.mod_eq_of_lt hn
  have vs : Oct.val (Oct.le s 4) = s := by rw [Oct.val_le]; exact Nat.mod_eq_of_lt hs
  unfold head
  rw [if_neg (by rw [hl]; simp), if_neg (by rw [e4]; simp), e16', e20, e412, vn, vs, name_zeros _ h]
theorem get_put {cmd body : List UInt8} (h : named cmd = true) (hb : body.length ≤ 2048) (rest : List UInt8) : get (put cmd body ++ rest) = (cmd, body, 24 + body.length, 0) := by
  obtain ⟨h0, h12, _⟩ := named_len h
  have hs := (Sha.check body).toNat_lt
  have hl := headOf_len h12 body.length (Sha.check body).toNat
  have hh := head_of h body.length (Sha.check body).toNat (by omega) hs
  rw [if_neg (by omega)] at hh
  rw [put_head, List.append_assoc]
  unfold get
  rw [if_neg (by rw [List.length_append, hl]; omega), List.take_left' hl, hh]
  simp only [ne_eq, not_true_eq_false, if_false]
  rw [if_neg (by rw [List.length_append, hl, List.length_append]; omega), if_neg h0, List.drop_left' hl, List.take_left' rfl]
  simp
theorem get_cut {cmd body : List UInt8} (h : named cmd = true) (hb : body.length ≤ 2048) (k : Nat) (hk : k < (put cmd body).length) : get ((put cmd body).take k) = ([], [], 0, 4) := by
  obtain ⟨h0, h12, _⟩ := named_len h
  have hs := (Sha.check body).toNat_lt
  have hl := headOf_len h12 body.length (Sha.check body).toNat
  have hh := head_of h body.length (Sha.check body).toNat (by omega) hs
  rw [if_neg (by omega)] at hh
  rw [put_head, List.length_append, hl] at hk
  have hlk : ((put cmd body).take k).length = k := by rw [List.length_take, put_head, List.length_append, hl]; omega
  unfold get
  rw [hlk]
  by_cases h24 : k < 24
  · rw [if_pos h24]
  · have et : ((put cmd body).take k).take 24 = headOf cmd body.length (Sha.check body).toNat := by
      rw [List.take_take, Nat.min_eq_left (by omega), put_head, List.take_left' hl]
    rw [if_neg h24, et, hh]
    simp only [ne_eq, not_true_eq_false, if_false]
    rw [if_pos (by omega)]
theorem put_len {cmd : List UInt8} (h : named cmd = true) (body : List UInt8) : (put cmd body).length = 24 + body.length := by
  obtain ⟨_, h12, _⟩ := named_len h
  rw [put_head, List.length_append, headOf_len h12]
end Go.Proofs.YtpacgblddeoheaaDoor.Frm
