/- Sums of 256 bits, in plain Lean: blocks, paddings, sums; the two ways in which they are reckoned. -/
import Derived.Test.YtacbibflhdmcoaaDoorBase
set_option linter.unusedVariables false
set_option linter.unusedSimpArgs false
namespace Go.Proofs.YtacbibflhdmcoaaDoor.Sha
def rotr (x n : UInt32) : UInt32 := x >>> n ||| x <<< (32 - n)
def sig0 (x : UInt32) : UInt32 := rotr x 7 ^^^ rotr x 18 ^^^ x >>> 3
def sig1 (x : UInt32) : UInt32 := rotr x 17 ^^^ rotr x 19 ^^^ x >>> 10
def Sig0 (a : UInt32) : UInt32 := rotr a 2 ^^^ rotr a 13 ^^^ rotr a 22
def Sig1 (e : UInt32) : UInt32 := rotr e 6 ^^^ rotr e 11 ^^^ rotr e 25
def ch (e f g : UInt32) : UInt32 := (e &&& f) ^^^ (~~~e &&& g)
def maj (a b c : UInt32) : UInt32 := (a &&& b) ^^^ (a &&& c) ^^^ (b &&& c)
def consts : List UInt32 := [0x428a2f98, 0x71374491, 0xb5c0fbcf, 0xe9b5dba5, 0x3956c25b, 0x59f111f1, 0x923f82a4, 0xab1c5ed5, 0xd807aa98, 0x12835b01, 0x243185be, 0x550c7dc3, 0x72be5d74, 0x80deb1fe, 0x9bdc06a7, 0xc19bf174, 0xe49b69c1, 0xefbe4786, 0x0fc19dc6, 0x240ca1cc, 0x2de92c6f, 0x4a7484aa, 0x5cb0a9dc, 0x76f988da, 0x983e5152, 0xa831c66d, 0xb00327c8, 0xbf597fc7, 0xc6e00bf3, 0xd5a79147, 0x06ca6351, 0x14292967, 0x27b70a85, 0x2e1b2138, 0x4d2c6dfc, 0x53380d13, 0x650a7354, 0x766a0abb, 0x81c2c92e, 0x92722c85, 0xa2bfe8a1, 0xa81a664b, 0xc24b8b70, 0xc76c51a3, 0xd192e819, 0xd6990624, 0xf40e3585, 0x106aa070, 0x19a4c116, 0x1e376c08, 0x2748774c, 0x34b0bcb5, 0x391c0cb3, 0x4ed8aa4a, 0x5b9cca4f, 0x682e6ff3, 0x748f82ee, 0x78a5636f, 0x84c87814, 0x8cc70208, 0x90befffa, 0xa4506ceb, 0xbef9a3f7, 0xc67178f2]
structure St where
  a : UInt32
  b : UInt32
  c : UInt32
  d : UInt32
  e : UInt32
  f : UInt32
  g : UInt32
  h : UInt32
def first : St := ⟨0x6a09e667, 0xbb67ae85, 0x3c6ef372, 0xa54ff53a, 0x510e527f, 0x9b05688c, 0x1f83d9ab, 0x5be0cd19⟩
def St.list (s : St) : List UInt32 := [s.a, s.b, s.c, s.d, s.e, s.f, s.g, s.h]
def St.add (s v : St) : St := ⟨s.a + v.a, s.b + v.b, s.c + v.c, s.d + v.d, s.e + v.e, s.f + v.f, s.g + v.g, s.h + v.h⟩
/-- one round -/
def round (v : St) (k w : UInt32) : St :=
  let p := v.h + Sig1 v.e + ch v.e v.f v.g + k + w
  let q := Sig0 v.a + maj v.a v.b v.c
  ⟨p + q, v.a, v.b, v.c, v.d + p, v.e, v.f, v.g⟩
/-- the t-th of sixteen numbers of a block -/
def word16 (b : List UInt8) (t : Nat) : UInt32 :=
  (b.getD (4 * t) 0).toUInt32 <<< 24 ||| (b.getD (4 * t + 1) 0).toUInt32 <<< 16 ||| (b.getD (4 * t + 2) 0).toUInt32 <<< 8 ||| (b.getD (4 * t + 3) 0).toUInt32
/-- the schedule: its first t numbers -/
def sched (b : List UInt8) : Nat → List UInt32
  | 0 => []
  | t + 1 => let l := sched b t
    l ++ [if t < 16 then word16 b t else sig1 (l.getD (t - 2) 0) + l.getD (t - 7) 0 + sig0 (l.getD (t - 15) 0) + l.getD (t - 16) 0]
def W (b : List UInt8) (t : Nat) : UInt32 := (sched b (t + 1)).getD t 0
def rounds (s : St) (ws : List UInt32) : Nat → St
  | 0 => s
  | t + 1 => round (rounds s ws t) (consts.getD t 0) (ws.getD t 0)
def block (s : St) (b : List UInt8) : St := s.add (rounds s (sched b 64) 64)
/-- as many whole blocks as there are -/
def blocks (s : St) (l : List UInt8) : Nat → St
  | 0 => s
  | n + 1 => block (blocks s l n) ((l.drop (64 * n)).take 64)
/-- the padding of so many bytes -/
def pad (n : Nat) : List UInt8 := 128 :: List.replicate ((119 - n % 64) % 64) 0 ++ (List.range 8).map fun i => UInt8.ofNat (n * 8 / 2 ^ (56 - 8 * i))
def be (x : UInt32) : List UInt8 := [(x >>> 24).toUInt8, (x >>> 16).toUInt8, (x >>> 8).toUInt8, x.toUInt8]
def sum (l : List UInt8) : List UInt8 :=
  let m := l ++ pad l.length
  (blocks first m (m.length / 64)).list.flatMap be
def twice (l : List UInt8) : List UInt8 := sum (sum l)
def check (l : List UInt8) : UInt32 :=
  let h := twice l
  (h.getD 0 0).toUInt32 ||| (h.getD 1 0).toUInt32 <<< 8 ||| (h.getD 2 0).toUInt32 <<< 16 ||| (h.getD 3 0).toUInt32 <<< 24
theorem check_nil : check [] = 0xe2e0f65d := by decide +kernel
end Go.Proofs.YtacbibflhdmcoaaDoor.Sha
