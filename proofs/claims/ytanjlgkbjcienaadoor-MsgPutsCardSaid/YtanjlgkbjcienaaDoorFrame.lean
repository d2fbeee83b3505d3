/- Package frame: names. -/
import Derived.Test.YtanjlgkbjcienaaDoorOct
import Derived.Test.YtanjlgkbjcienaaDoorShaSum3
import Derived.Lib.ConvBytes
namespace Go.Proofs.YtanjlgkbjcienaaDoor.Frm
def letter (c : UInt8) : Bool := decide (97 ≤ c.toNat ∧ c.toNat ≤ 122)
def named (s : List UInt8) : Bool := decide (s ≠ []) && decide (s.length ≤ 12) && s.all letter
def magic : List UInt8 := [0xc4, 0xf0, 0x7a, 0x1e]
/-- a frame -/
def put (cmd body : List UInt8) : List UInt8 := magic ++ cmd ++ List.replicate (12 - cmd.length) 0 ++ Oct.le body.length 4 ++ Oct.le (Sha.check body).toNat 4 ++ body
def strip (b : List UInt8) : List UInt8 := (b.reverse.dropWhile (· == 0)).reverse
def name (b : List UInt8) : List UInt8 := if strip b = [] then [] else if (strip b).all letter then strip b else []
structure Head where
  cmd : List UInt8
  len : Nat
  sum : Nat
def head (b : List UInt8) : Head × Int :=
  if b.length ≠ 24 then (⟨[], 0, 0⟩, 2)
  else if b.take 4 ≠ magic then (⟨[], 0, 0⟩, 6)
  else if 2048 < Oct.val ((b.drop 16).take 4) then (⟨[], 0, 0⟩, 5)
  else (⟨name ((b.drop 4).take 12), Oct.val ((b.drop 16).take 4), Oct.val (b.drop 20)⟩, 0)
/-- what is read of bytes: a command, a body, how many bytes, an error's number -/
def get (b : List UInt8) : List UInt8 × List UInt8 × Nat × Int :=
  if b.length < 24 then ([], [], 0, 4)
  else
    let h := head (b.take 24)
    if h.2 ≠ 0 then ([], [], 0, h.2)
    else if b.length - 24 < h.1.len then ([], [], 0, 4)
    else
      let body := (b.drop 24).take h.1.len
      if h.1.cmd = [] then ([], [], 24 + h.1.len, 8)
      else if (Sha.check body).toNat ≠ h.1.sum then ([], [], 24 + h.1.len, 7)
      else (h.1.cmd, body, 24 + h.1.len, 0)
end Go.Proofs.YtanjlgkbjcienaaDoor.Frm
namespace Go.Proofs.YtanjlgkbjcienaaDoor
open Go.RowKit Go.Deep
set_option linter.unusedVariables false
set_option linter.unusedSimpArgs false
set_option maxRecDepth 100000
attribute [local go_sem ↓] Go.wp_at_zero Go.wp_at_succ
theorem ret_bool {a b : Bool} (h : a = b) : Ending.returned (.bool a) = .returned (.bool b) := by rw [h]
theorem all_take {l : List UInt8} {k : Nat} (hk : k < l.length) (p : UInt8 → Bool) (h : (l.take k).all p = true) (hp : p l[k] = true) : (l.take (k + 1)).all p = true := by
  rw [List.take_succ_eq_append_getElem hk, List.all_append, h]; simp [hp]
theorem letters_any (A : Option Addr) (n c B : Nat) (l : List UInt8) (w : World) (hl : l.length = n) (hn : n ≤ 9223372036854775807) (h : BytesAt w B A l) :
    Calls Tryd.prog 32 #[.slice A n c] w fun e w' => e = .returned (.bool (l.all Frm.letter)) ∧ w = w' := by
  subst hl
  have HH := Lib.hid h
  clear h
  go_enter Tryd.func32, Tryd.ntmps32
  go_wp2_with fail
  go_loop [7] (fun i => ∃ k : Nat, k ≤ l.length ∧ i = .int .i64 (k : Int) ∧ Hid ((l.take k).all Frm.letter = true)) (fun i => l.length - (intOf i).toNat)
  case atStart => exact ⟨0, Nat.zero_le _, rfl, Lib.hid rfl⟩
  case round =>
    obtain ⟨k, hk, rfl, ha⟩ := hrel
    by_cases hlt : k < l.length
    · obtain ⟨b, off, rfl, _, hc⟩ := HH.out.cell hlt
      have HN := Lib.hid (fun hp => all_take hlt Frm.letter ha.out hp)
      have HX : Hid (Frm.letter l[k] = false → l.all Frm.letter = false) := Lib.hid fun hp => by
        rw [List.all_eq_false]; exact ⟨l[k], List.getElem_mem hlt, by simp [hp]⟩
      generalize l[k] = x at *
      have hx := x.toNat_lt
      have HL := Lib.hid (show Frm.letter x = decide (97 ≤ x.toNat ∧ x.toNat ≤ 122) from rfl)
      go_wp2_with fail
      · have hgt : 25 < ((x.toNat : Int) - 97) % 256 := by assumption
        have hf : Frm.letter x = false := by rw [HL.out, decide_eq_false_iff_not]; omega
        go_ret
        exact ⟨ret_bool (HX.out hf).symm, rfl⟩
      · have hle : ¬ 25 < ((x.toNat : Int) - 97) % 256 := by first | assumption | (have : ((x.toNat : Int) - 97) % 256 ≤ 25 := by assumption); omega
        have ht : Frm.letter x = true := by rw [HL.out, decide_eq_true_eq]; omega
        go_round
        case rel => exact ⟨k + 1, by omega, by go_num, Lib.hid (HN.out ht)⟩
        case measure => simp [intOf]; omega
    · have hkl : k = l.length := by omega
      have HA := Lib.hid (show l.all Frm.letter = true by have := ha.out; rwa [hkl, List.take_of_length_le (Nat.le_refl _)] at this)
      clear ha hkl
      go_wp2_with fail
      go_ret
      exact ⟨ret_bool HA.out.symm, rfl⟩
theorem str_len (s : ByteArray) : s.data.toList.length = s.size := (Lib.size_eq s).symm
theorem str_empty (s : ByteArray) : s.toList.isEmpty = decide (s.data.toList = []) := by
  rw [← decide_eq_emptyBytes]
  congr 1
  rw [eq_iff_iff]
  constructor
  · rintro rfl; rfl
  · intro h
    have : s.data = #[] := by rw [← Array.toList_inj]; exact h
    obtain ⟨d⟩ := s
    simp only at this
    subst this
    rfl
theorem below_bytesWorld (w : World) (e : TypeId) (s : ByteArray) : Below w.heap.size w (Lib.bytesWorld w e s) :=
  ⟨rfl, rfl, rfl, by rw [Lib.bytesWorld_size]; omega, fun i hi => Lib.bytesWorld_at_old w e s i hi⟩
theorem bytesWorld_at (w : World) (e : TypeId) (s : ByteArray) : BytesAt (Lib.bytesWorld w e s) (w.heap.size + 1) (some ⟨w.heap.size, 0, none⟩) s.data.toList := by
  intro i hi
  refine ⟨w.heap.size, 0, [byteV s.data.toList[i]], rfl, by omega, rfl, fun j hj => ?_⟩
  have hj0 : j = 0 := by simpa using hj
  subst hj0
  have := Lib.bytesWorld_cell w e s i (by rw [← str_len]; exact hi)
  rw [Nat.zero_add, Nat.mul_one, Nat.add_zero, this]
  have hi' : i < s.data.size := by simpa using hi
  simp [byteV, List.getD_eq_getElem?_getD, Array.getElem?_eq_getElem hi']
theorem named_any (s : ByteArray) (w : World) (hs : s.size ≤ 9223372036854775807) : Calls Tryd.prog 13 #[.string s] w fun e w' => e = .returned (.bool (Frm.named s.data.toList)) ∧ Below w.heap.size w w' := by
  have hse := str_empty s
  have hsl := str_len s
  by_cases h0 : s.data.toList = []
  · have e1 : s.toList.isEmpty = true := by rw [hse]; simpa using h0
    have HF := Lib.hid (show Frm.named s.data.toList = false by rw [h0]; rfl)
    clear hse hsl h0
    go_enter Tryd.func13, Tryd.ntmps13
    go_wp2_with fail
    go_ret
    exact ⟨ret_bool HF.out.symm, Below.refl _ _⟩
  · have e1 : s.toList.isEmpty = false := by rw [hse]; simpa using h0
    by_cases h12 : s.size ≤ 12
    · obtain ⟨v, hv⟩ : ∃ v, v = s.data.toList.all Frm.letter := ⟨_, rfl⟩
      have h12' : (s.size : Int) ≤ 12 := by omega
      have HF := Lib.hid (show Frm.named s.data.toList = v by rw [hv]; unfold Frm.named; rw [hsl]; simp [h0, h12])
      have hcv := fun W => Lib.run_convert_string_bytes (P := Tryd.prog) W 9 33 5 s Tryd.underlying9 Tryd.underlying33 Tryd.underlying5
      have HLT := Lib.hid (letters_any _ s.size (grownCap w s.size 0 5) _ s.data.toList _ hsl (by omega) (bytesWorld_at w 5 s))
      rw [← hv] at HLT
      clear hse hsl h0 hv
      go_enter Tryd.func13, Tryd.ntmps13
      go_wp2_with fail
      refine HLT.out.mono ?_
      rintro e w1 ⟨rfl, rfl⟩
      go_wp2_with fail
      go_ret
      exact ⟨ret_bool HF.out.symm, below_bytesWorld _ _ _⟩
    · have HF := Lib.hid (show Frm.named s.data.toList = false by unfold Frm.named; rw [hsl]; simp [h12])
      have h12' : ¬ ((s.size : Int) ≤ 12) := by omega
      clear hse hsl h0
      go_enter Tryd.func13, Tryd.ntmps13
      go_wp2_with fail
      go_ret
      exact ⟨ret_bool HF.out.symm, Below.refl _ _⟩
end Go.Proofs.YtanjlgkbjcienaaDoor
