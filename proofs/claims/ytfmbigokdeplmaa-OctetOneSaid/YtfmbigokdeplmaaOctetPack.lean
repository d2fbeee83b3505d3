/- Parts packed: the program's walk and the document's. -/
import Derived.Test.YtfmbigokdeplmaaOctetRead
namespace Go.Proofs.Ytfmbigokdeplmaa
open Go.RowKit Go.Deep
set_option linter.unusedVariables false
set_option maxRecDepth 100000
attribute [local go_sem ↓] Go.wp_at_zero Go.wp_at_succ

/-- what is packed so far -/
structure PackL (w0 : World) (B : Nat) (A : Option Addr) (ls : List (List UInt8)) (v : Value) (k : Nat) (w : World) : Prop where
  le : k ≤ ls.length
  row : OwnB w w0.heap.size v (Oct.packTo ls k)
  below : Below w0.heap.size w0 w
  parts : PartsAt w B A ls
theorem flat_len (ls : List (List UInt8)) : ls.length ≤ (ls.flatMap fun p => Oct.var p.length ++ p).length := by
  induction ls with
  | nil => simp
  | cons p l ih =>
    have h1 := Oct.var_length p.length
    have h2 := (Oct.size_pos p.length).1
    rw [List.flatMap_cons, List.length_append, List.length_append, List.length_cons]
    omega
theorem pack_len (ls : List (List UInt8)) : ls.length ≤ (Oct.pack ls).length := by
  unfold Oct.pack
  have := flat_len ls
  rw [List.length_append]
  omega

/-- what grows a row of one's own leaves what lies under it -/
theorem _root_.Go.World.grownBy.below_of_own {w w' : World} {B base : Nat} {e : TypeId} {size : Nat} {v : Value} {n : Nat} {xs : List Value} (hg : w.grownBy w' v.ownBlock) (h : w.ownsRow base e size v n xs) (hB : B ≤ base) (hs : B ≤ w.heap.size) : Below B w w' :=
  ⟨hg.os, hg.tape, hg.output, hg.size, fun i hi => hg.block i (by omega) (fun e => by have := (h.lt i e.symm).1; omega)⟩

set_option maxHeartbeats 1000000 in
theorem opack_any (A : Option Addr) (n cap B : Nat) (ls : List (List UInt8)) (w : World) (hl : ls.length = n) (hB : B ≤ w.heap.size) (hroom : (Oct.pack ls).length ≤ 140737488355328) (h : PartsAt w B A ls) :
    Calls Try.prog 25 #[.slice A n cap] w fun r w' => ∃ v, r = .returned v ∧ OwnB w' w.heap.size v (Oct.pack ls) ∧ Below w.heap.size w w' := by
  subst hl
  obtain ⟨i0, hi, hz0, hz1, hz2⟩ := info_parts byte_info
  have Hi := Lib.hid hi
  have Hz := Lib.hid hz0
  have Hz1 := Lib.hid hz1
  have Hz2 := Lib.hid hz2
  have hlen := pack_len ls
  clear hi hz0 hz1 hz2
  have hu0 : U64 ls.length := by unfold U64; omega
  go_enter Try.func25, Try.ntmps25
  go_wp2_with (go_at_call 17; refine (ovar_any ls.length hu0 _).mono ?_; rintro e w1 ⟨v, rfl, hv, hb⟩)
  go_loopw [3, 12] (fun u i wr => ∃ k : Nat, i = .int .i64 k ∧ PackL w B A ls u k wr) (fun _ i _ => ls.length - (intOf i).toNat)
  case atStart => exact ⟨0, rfl, Nat.zero_le _, by simpa [Oct.packTo] using hv, hb, h.below (hb.mono hB)⟩
  case round =>
    obtain ⟨k, rfl, g⟩ := hrel
    have gle := g.le
    have hrow := g.row
    have hbl := g.below
    have hsz := hbl.size
    have G := Lib.hid g
    by_cases hk : k < ls.length
    · obtain ⟨q, off, A1, cap1, rfl, hq, c1, hc1, hm1, hpart⟩ := g.parts.cell hk
      have hsucc := Oct.packTo_succ ls k hk
      have hto := Oct.packTo_le ls (k + 1)
      have hto' := congrArg List.length hsucc
      simp only [List.length_append] at hto'
      have hu1 : U64 ls[k].length := by unfold U64; omega
      have Hs := Lib.hid hsucc
      clear g hsucc h hv hb
      generalize ls[k] = p at *
      generalize hpk : Oct.packTo ls k = pk at *
      generalize hpk1 : Oct.packTo ls (k + 1) = pk1 at *
      have Hpk1 := Lib.hid hpk1
      clear hpk1
      have Hpk := Lib.hid hpk
      clear hpk
      go_wp2_with fail
      refine (ovar_any p.length hu1 _).mono ?_
      rintro e w2 ⟨v2, rfl, hv2, hb2⟩
      obtain ⟨A2, cap2, rfl, _, _, hat2, _⟩ := hv2.at_
      have hrow2 := own_below hrow hb2
      have hsrc2 := BytesAt.src hat2
      have hpart2 := At.below hpart (hb2.mono (Nat.le_trans hB hsz))
      have hsz2 := hb2.size
      have hroom2 : pk.length + (Oct.var p.length).length + p.length ≤ 140737488355328 := by omega
      have hlen2 : ls.length ≤ 140737488355328 := by omega
      clear hto hto' hroom hlen
      go_wp2_with (first
        | (at_builtin; refine wpList_app _ rfl (.tmp 16) (.tmp 20) _ rfl w.heap.size 5 i0 _ 1 1 Try.underlying23 Hi.out Hz.out Hz1.out Hz2.out rfl (by decide) u3 pk.length _ rfl hrow2 A2 (Oct.var p.length).length cap2 ((Oct.var p.length).map byteV) rfl (by rw [List.length_map, Nat.mul_one]) hsrc2 (oneCell_bytes _) (by unfold maxLen; omega) (by omega) (by omega) ?_; intro v3 w3 hrow3 hg3 hat3; have hb3 := hg3.below_of_own hrow2 (Nat.le_refl _) (by omega); have hsrc3 := BytesAt.src (At.below hpart2 (hb3.mono hB)); have hsz3 := hb3.size)
        | (at_builtin; refine wpList_app _ rfl (.tmp 22) (.tmp 23) _ rfl w.heap.size 5 i0 _ 1 1 Try.underlying23 Hi.out Hz.out Hz1.out Hz2.out rfl (by decide) v3 (pk.length + (Oct.var p.length).length) _ rfl hrow3 A1 p.length cap1 (p.map byteV) rfl (by rw [List.length_map, Nat.mul_one]) hsrc3 (oneCell_bytes _) (by unfold maxLen; omega) (by omega) (by omega) ?_; intro v4 w4 hrow4 hg4 hat4; have hb4 := hg4.below_of_own hrow3 (Nat.le_refl _) (by omega)))
      go_roundw
      case rel =>
        refine ⟨k + 1, by go_num, hk, ?_, (hbl.trans (hb2.mono hsz)).trans (hb3.trans hb4), ?_⟩
        · rw [Hpk1.out, Hs.out]
          unfold OwnB
          rw [List.length_append, List.length_append, List.map_append, List.map_append]
          exact hrow4
        · exact G.out.parts.below (((hb2.mono hsz).trans (hb3.trans hb4)).mono hB)
      case measure => simp [intOf]; omega
    · obtain rfl : k = ls.length := by omega
      rw [Oct.packTo_all] at hrow
      clear g hv hb
      go_wp2
      go_ret
      exact ⟨_, rfl, hrow, hbl⟩
end Go.Proofs.Ytfmbigokdeplmaa
