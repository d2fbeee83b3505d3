/- PeerActs: the walk. -/
import Derived.Test.YtpacgblddeoheaaDoorPrBo
import Derived.Deep.CutBlock
namespace Go.Proofs.YtpacgblddeoheaaDoor.P22
open Go.RowKit Go.Deep M8 T7 Go.ChangeShapes Go.WideShapes Go.ChangeAt
set_option linter.unusedVariables false
set_option linter.unusedSimpArgs false
set_option maxRecDepth 100000
set_option maxHeartbeats 4000000
attribute [local go_sem ↓] Go.wp_at_zero Go.wp_at_succ

def sideV (o : Bool) (n t : Nat) : Value := .agg #[.bool o, .int .u64 (n : Int), .int .u64 (t : Int)]
theorem side_open {H : Type} {enc : TypeId × Value → H} {W : World} {base : Nat} {v : Value} {d : DataW H} {p : List MemPlace} (okv : Value.okWide Tryd.prog W .any base 36 v)
    (h : DataW.Trod enc Tryd.prog W 0 (fun _ => true) true 36 v d p) : ∃ (o : Bool) (n t : Nat), v = sideV o n t ∧ n ≤ 18446744073709551615 ∧ t ≤ 18446744073709551615 := by
  obtain ⟨v0, v1, v2, y0, y1, y2, m, rfl, _, _, h0, h1, h2⟩ := Joins.open_agg3 Tryd.underlying36 (by kernel_rfl) (by kernel_rfl) okv h
  obtain ⟨o, e0, _⟩ := DataW.trod_bool Tryd.underlying4 h0
  obtain ⟨n, e1, _, w1⟩ := DataW.trod_int Tryd.underlying27 h1
  obtain ⟨t, e2, _, w2⟩ := DataW.trod_int Tryd.underlying27 h2
  injection e0 with e0; injection e1 with e1; injection e2 with e2
  have w1 := wf_u64 w1
  have w2 := wf_u64 w2
  obtain ⟨n, rfl⟩ := Int.eq_ofNat_of_zero_le w1.1
  obtain ⟨t, rfl⟩ := Int.eq_ofNat_of_zero_le w2.1
  refine ⟨o, n, t, ?_, by omega, by omega⟩
  rw [e0, e1, e2]; rfl
variable {X : Ptrs}
def opens (d : PeerD) : List (Nat × Nat × Nat) := if d.out then [(1, d.nonce, 1)] else []
theorem open_any (b : Nat) (d : PeerD) (w : World) (h : IsPeer X w b d) : Calls Tryd.prog 15 #[.pointer (some ⟨b, 0, none⟩)] w fun r w' => ∃ v, r = .returned v ∧ Outs w' w.heap.size v (opens d) ∧ Below w.heap.size w w' := by
  unfold opens
  cases ho : d.out with
  | true => exact open_out b d w h ho
  | false => exact (open_in b d w h ho).mono fun e w' ⟨h1, h2⟩ => ⟨_, h1, Outs.nil _ _, h2 ▸ Below.refl _ _⟩
theorem ropen_any {Y : RX} (b : Nat) (d : PeerD) (w : World) (h : IsR Y w b d) : Calls Tryd.prog 16 #[.pointer (some ⟨b, 0, none⟩)] w fun r w' => ∃ v, r = .returned v ∧ Outs w' w.heap.size v (opens d) ∧ Below w.heap.size w w' := by
  unfold opens
  cases ho : d.out with
  | true => exact ropen_out b d w h ho
  | false => exact (ropen_in b d w h ho).mono fun e w' ⟨h1, h2⟩ => ⟨_, h1, Outs.nil _ _, h2 ▸ Below.refl _ _⟩
theorem Outs.kp {w w' : World} {base : Nat} {v : Value} {l : List (Nat × Nat × Nat)} {S : Nat → Prop} (h : Outs w base v l) (hk : Kp S w w') (hS : ∀ i, base ≤ i → ¬ S i) : Outs w' base v l := own_kp2 h hk (fun i hi => hS i (own_lt h i hi).1)
/-- what a peer stays within -/
structure DOk (k : Nat) (d : PeerD) : Prop where
  step : d.step ≤ 2
  since : d.since ≤ 18446744073709551615
  pings : d.pings ≤ k
  nonce : d.nonce ≤ 18446744073709551615
abbrev OutsOk (l : List (Nat × Nat × Nat)) : Prop := ∀ m ∈ l, m.1 ≤ 100 ∧ m.2.1 < 18446744073709551616 ∧ m.2.2 < 4294967296
theorem opens_ok {k : Nat} {d : PeerD} (h : DOk k d) : OutsOk (opens d) := by
  have := h.nonce
  unfold opens
  split
  · intro m hm
    rw [List.mem_singleton.1 hm]
    simp only
    omega
  · intro m hm; simp at hm
theorem DOk.more {k : Nat} {d : PeerD} (h : DOk k d) : DOk (k + 1) d := ⟨h.step, h.since, by have := h.pings; omega, h.nonce⟩
theorem heard_ok {k : Nat} {d : PeerD} (h : DOk k d) (kk n c : Int) (hn : n < 18446744073709551616) : DOk k (heard d kk n c).2.2.2 ∧ OutsOk (heard d kk n c).1 := by
  obtain ⟨h1, h2, h3, h4⟩ := h
  unfold heard
  repeat' split
  all_goals refine ⟨⟨?_, ?_, ?_, ?_⟩, ?_⟩
  all_goals first
    | (simp only; omega)
    | (intro m hm
       first
         | exact absurd hm List.not_mem_nil
         | skip
       all_goals simp only [List.mem_cons, List.not_mem_nil, or_false] at hm
       all_goals first
         | (rcases hm with rfl | rfl | rfl <;> simp only <;> omega)
         | (rcases hm with rfl | rfl <;> simp only <;> omega)
         | (subst hm; simp only; omega))
theorem ticked_ok {k : Nat} {d : PeerD} (h : DOk k d) (hk : k ≤ 1000) (now : Nat) (hn : now < 18446744073709551616) : DOk (k + 1) (ticked d now).2.2 ∧ OutsOk (ticked d now).1 := by
  obtain ⟨h1, h2, h3, h4⟩ := h
  unfold ticked
  repeat' split
  all_goals refine ⟨⟨?_, ?_, ?_, ?_⟩, ?_⟩
  all_goals first
    | (simp only; omega)
    | (intro m hm
       first
         | exact absurd hm List.not_mem_nil
         | skip
       all_goals simp only [List.mem_cons, List.not_mem_nil, or_false] at hm
       all_goals first
         | (subst hm; simp only; omega))
/-- both said how they open, or not yet -/
structure OS (w0 : World) (B0 b m : Nat) (Fk : Nat → Nat) (q : Addr) (d : PeerD) (vk : Nat → Value) (sk : Nat → List UInt8 × Bool) (Y : RX) (S : Nat) (T : TypeId) (cs : Array Value) (l : List (Nat × Nat × Nat)) (vo vd : Option Value) (w : World) : Prop where
  pa : PA w0 B0 b m Fk q w d d vk sk sk Y
  o1 : ∀ v, vo = some v → Outs w B0 v l
  o2 : ∀ v, vd = some v → Outs w B0 v l
  sb : Bk w S T cs
  ok : OutsOk l
variable {w0 : World} {B0 b m : Nat} {Fk : Nat → Nat} {q : Addr} {w w1 : World} {d : PeerD} {vk : Nat → Value} {sk : Nat → List UInt8 × Bool} {Y : RX} {S : Nat} {T : TypeId} {cs : Array Value} {vo vd : Option Value} {l : List (Nat × Nat × Nat)}
theorem OS.low (h : OS w0 B0 b m Fk q d vk sk Y S T cs l vo vd w) (hb : Below w.heap.size w w1) : OS w0 B0 b m Fk q d vk sk Y S T cs l vo vd w1 :=
  ⟨h.pa.lowered hb, fun v e => own_below (h.o1 v e) hb, fun v e => own_below (h.o2 v e) hb, h.sb.below hb h.sb.lt, h.ok⟩
theorem OS.drew (h : OS w0 B0 b m Fk q d vk sk Y S T cs l vo vd w) : OS w0 B0 b m Fk q d vk sk Y S T cs l vo vd w.drew := h.low ((Below.refl _ _).drew)
theorem os_open (h : OS w0 B0 b m Fk q d vk sk Y S T cs (opens d) none vd w) : Calls Tryd.prog 15 #[.pointer (some ⟨b, 0, none⟩)] w fun e w' => ∃ v, e = .returned v ∧ OS w0 B0 b m Fk q d vk sk Y S T cs (opens d) (some v) vd w' :=
  (open_any b d w h.pa.peer).mono fun e w' ⟨v, h1, h2, h3⟩ => ⟨v, h1, ⟨h.pa.lowered h3, fun v' e => by cases e; exact Outs.mono h2 h.pa.bw, (h.low h3).o2, (h.low h3).sb, h.ok⟩⟩
theorem os_ropen (h : OS w0 B0 b m Fk q d vk sk Y S T cs (opens d) vo none w) : Calls Tryd.prog 16 #[.pointer (some ⟨m, 0, none⟩)] w fun e w' => ∃ v, e = .returned v ∧ OS w0 B0 b m Fk q d vk sk Y S T cs (opens d) vo (some v) w' :=
  (ropen_any m d w h.pa.doc).mono fun e w' ⟨v, h1, h2, h3⟩ => ⟨v, h1, ⟨h.pa.lowered h3, (h.low h3).o1, fun v' e => by cases e; exact Outs.mono h2 h.pa.bw, (h.low h3).sb, h.ok⟩⟩
theorem os_same {v v' : Value} (h : OS w0 B0 b m Fk q d vk sk Y S T cs l (some v) (some v') w) : Calls Tryd.prog 14 #[v, v'] w fun e w' => e = .returned (.bool true) ∧ OS w0 B0 b m Fk q d vk sk Y S T cs l (some v) (some v') w' :=
  (samemsgs_any l B0 B0 v v' w (h.o1 v rfl) (h.o2 v' rfl) h.ok).mono fun e w' ⟨h1, h2⟩ => ⟨h1, h.low h2⟩
theorem os_out (h : OS w0 B0 b m Fk q d vk sk Y S T cs l vo vd w) : Calls Tryd.prog 17 #[.pointer (some ⟨b, 0, none⟩)] w fun e w' => e = .returned (.bool d.out) ∧ OS w0 B0 b m Fk q d vk sk Y S T cs l vo vd w' :=
  (out_any b d w h.pa.peer).mono fun e w' ⟨h1, h2⟩ => ⟨h1, h2 ▸ h⟩
theorem os_ready (h : OS w0 B0 b m Fk q d vk sk Y S T cs l vo vd w) : Calls Tryd.prog 23 #[.pointer (some ⟨b, 0, none⟩)] w fun e w' => e = .returned (.bool (decide (d.step = 2))) ∧ OS w0 B0 b m Fk q d vk sk Y S T cs l vo vd w' :=
  (ready_any b d w h.pa.peer).mono fun e w' ⟨h1, h2⟩ => ⟨by rw [h1, show ((d.step : Int) == 2) = decide (d.step = 2) by rw [Bool.eq_iff_iff]; simp; omega], h2 ▸ h⟩
theorem os_stem (h : OS w0 B0 b m Fk q d vk sk Y S T cs l vo vd w) : Calls Tryd.prog 24 #[.pointer (some ⟨b, 0, none⟩)] w fun e w' => e = .returned (.bool (decide (d.step = 2) && d.takes)) ∧ OS w0 B0 b m Fk q d vk sk Y S T cs l vo vd w' :=
  (stem_any b d w h.pa.peer).mono fun e w' ⟨h1, h2⟩ => ⟨by rw [h1, show ((d.step : Int) == 2) = decide (d.step = 2) by rw [Bool.eq_iff_iff]; simp; omega], h2 ▸ h⟩
theorem peerActs_walk (w : World) (hlay : Laid w) (o : Bool) (pn pt : Nat) (hpn : pn ≤ 18446744073709551615) (hpt : pt ≤ 18446744073709551615) (A : Option Addr) (n c : Nat) (l : List Act) (hl : l.length = n) (hc : n ≤ c) (hm : c ≤ maxLen) (hat : At 11 (IsAct w w.heap.size) w w.heap.size A l) :
    Calls Tryd.prog 4 #[sideV o pn pt, .slice A n c] w fun e w' => e = .returned (.bool true) ∧ Below w.heap.size w w' := by
  subst hl
  have HLY := Lib.hid hlay
  have HAT := Lib.hid (show ActsAt w w.heap.size A l from hat)
  have HAL := Lib.hid (P22.alive_any)
  have HG := Lib.hid (fun W hb => great_any l A c w.heap.size W (HAT.out.below hb) hb.size hc hm)
  have hZA := zero_act
  generalize (#[.int .i64 0, .int .i64 0, .slice none 0 0, .int .i64 0, .int .u64 0, .int .u32 0, .slice none 0 0, .int .u32 0, .slice none 0 0, .slice none 0 0, .int .u64 0] : Array Value) = za at hZA
  have HZA := Lib.hid hZA
  have HZAL := Lib.hid (show za.size = 11 by
    have := zero_act
    rw [this] at hZA
    simp only [Option.some.injEq, Value.agg.injEq] at hZA
    rw [← hZA]; rfl)
  obtain ⟨S, hS⟩ : ∃ S, S = w.heap.size := ⟨_, rfl⟩
  obtain ⟨w1, hw1⟩ : ∃ w1, w1 = w.alloc (.cells #[.bool o, .int .u64 (pn : Int), .int .u64 (pt : Int)] 36) := ⟨_, rfl⟩
  have HB1 := Lib.hid (show Below w.heap.size w w1 by rw [hw1]; exact Joins.below_alloc1 _ _)
  have HS1 := Lib.hid (show Bk w1 S 36 #[.bool o, .int .u64 (pn : Int), .int .u64 (pt : Int)] by rw [hw1, hS]; exact Bk.new _ _ _)
  clear hlay hat hZA
  unfold sideV
  go_enter Tryd.func4, Tryd.ntmps4
  go_upto_region 1 with (fail)
  rw [← hw1]
  clear hw1
  subst hS
  go_wp2_with fail
  refine (HAL.out w1).mono ?_
  rintro e w2 ⟨rfl, hb2⟩
  have HB2 := Lib.hid (HB1.out.trans (hb2.mono HB1.out.size))
  have HS2 := Lib.hid (HS1.out.below hb2 HS1.out.lt)
  clear hb2 HAL HS1
  go_wp2_with fail
  refine (HG.out w2 HB2.out).mono ?_
  rintro e w3 ⟨⟨gb, rfl, hsm⟩, hb3⟩
  have HB3 := Lib.hid (HB2.out.trans (hb3.mono HB2.out.size))
  have HS3 := Lib.hid (HS2.out.below hb3 HS2.out.lt)
  clear hb3 HG HS2 HB2 HB1
  cases gb with
  | true =>
    go_wp2_with fail
    go_ret
    exact ⟨rfl, HB3.out⟩
  | false =>
  have HSM := Lib.hid (hsm rfl)
  clear hsm
  have s0 : w3.cell? ⟨w.heap.size, 0, none⟩ = some (.bool o) := (HS3.out.cell 0).trans rfl
  have s1 : w3.cell? ⟨w.heap.size, 1, none⟩ = some (.int .u64 (pn : Int)) := (HS3.out.cell 1).trans rfl
  have s2 : w3.cell? ⟨w.heap.size, 2, none⟩ = some (.int .u64 (pt : Int)) := (HS3.out.cell 2).trans rfl
  go_wp2_with fail
  refine (new_any o pn pt w3).mono ?_
  rintro e w4 ⟨b, F, G, q, rfl, hN⟩
  have HN := Lib.hid hN
  have HB4 := Lib.hid (HB3.out.trans (hN.below.mono HB3.out.size))
  have HS4 := Lib.hid (HS3.out.below hN.below HS3.out.lt)
  have hz3 := HB3.out.size
  clear hN HS3 s0 s1 s2
  have s0 : w4.cell? ⟨w.heap.size, 0, none⟩ = some (.bool o) := (HS4.out.cell 0).trans rfl
  have s1 : w4.cell? ⟨w.heap.size, 1, none⟩ = some (.int .u64 (pn : Int)) := (HS4.out.cell 1).trans rfl
  have s2 : w4.cell? ⟨w.heap.size, 2, none⟩ = some (.int .u64 (pt : Int)) := (HS4.out.cell 2).trans rfl
  go_wp2_with fail
  refine (rnew_any o pn pt w4).mono ?_
  rintro e w5 ⟨m, q2, rfl, hm4, hR, hb5⟩
  have HB5 := Lib.hid (HB4.out.trans (hb5.mono HB4.out.size))
  have HS5 := Lib.hid (HS4.out.below hb5 HS4.out.lt)
  have hN := HN.out
  have HPA : Hid (PA w w5.heap.size b m (fun k => if k = 0 then F else G) q w5 ⟨o, pn, 0, false, pt, 0, false⟩ ⟨o, pn, 0, false, pt, 0, false⟩ (fun _ => .slice none 0 0) (fun _ => ([], false)) (fun _ => ([], false)) ⟨pt, .slice none 0 0, false, .slice none 0 0, false, q2⟩) := Lib.hid (by
    have h1 := hN.hb
    have h2 := hN.ne
    have h3 := hN.peer.lt
    have h4 := hb5.size
    have h5 := hR.lt
    have hk : Kp (fun _ => False) w4 w5 := Kp.of_below hb5
    refine ⟨hN.peer.below hb5, hR, fun k hk2 => ?_, fun i hi => by simp [Value.ownBlock] at hi, fun k hk2 => ⟨none, 0, ?_, ?_, Nat.le_refl _, by simp [maxLen], fun i hi => by simp at hi, fun a ha => by cases ha⟩, ⟨?_, by omega, fun k hk2 => ?_⟩, ⟨by omega, h5, fun k hk2 => ?_⟩, ⟨by omega, by omega, fun k hk2 => ?_⟩, Nat.le_refl _, HB5.out⟩
    · rcases (by omega : k = 0 ∨ k = 1) with rfl | rfl
      · exact (hN.fl w5.heap.size).kp hk (fun h => h) (fun _ _ h => h)
      · exact (hN.gl w5.heap.size).kp hk (fun h => h) (fun _ _ h => h)
    · rcases (by omega : k = 0 ∨ k = 1) with rfl | rfl <;> rfl
    · rcases (by omega : k = 0 ∨ k = 1) with rfl | rfl <;> rfl
    · show F ≠ G
      omega
    · rcases (by omega : k = 0 ∨ k = 1) with rfl | rfl
      · show b ≠ F ∧ m ≠ F
        omega
      · show b ≠ G ∧ m ≠ G
        omega
    · rcases (by omega : k = 0 ∨ k = 1) with rfl | rfl
      · show F < _
        omega
      · show G < _
        omega
    · rcases (by omega : k = 0 ∨ k = 1) with rfl | rfl
      · show _ ≤ F
        omega
      · show _ ≤ G
        omega)
  have HOK : Hid (DOk 0 ⟨o, pn, 0, false, pt, 0, false⟩) := Lib.hid ⟨Nat.zero_le _, hpt, Nat.le_refl _, hpn⟩
  obtain ⟨d, hd⟩ : ∃ d : PeerD, d = ⟨o, pn, 0, false, pt, 0, false⟩ := ⟨_, rfl⟩
  obtain ⟨Y, hY⟩ : ∃ Y : RX, Y = ⟨pt, .slice none 0 0, false, .slice none 0 0, false, q2⟩ := ⟨_, rfl⟩
  obtain ⟨Fk, hFk⟩ : ∃ Fk : Nat → Nat, Fk = fun k => if k = 0 then F else G := ⟨_, rfl⟩
  obtain ⟨vk, hvk⟩ : ∃ vk : Nat → Value, vk = fun _ => .slice none 0 0 := ⟨_, rfl⟩
  obtain ⟨sk, hsk⟩ : ∃ sk : Nat → List UInt8 × Bool, sk = fun _ => ([], false) := ⟨_, rfl⟩
  rw [← hd, ← hY, ← hFk, ← hvk, ← hsk] at HPA
  rw [← hd] at HOK
  have HDO := Lib.hid (show o = d.out by rw [hd])
  obtain ⟨B0, hB0⟩ : ∃ B0, B0 = w5.heap.size := ⟨_, rfl⟩
  rw [← hB0] at HPA
  have HST : Hid (OS w B0 b m Fk q d vk sk Y w.heap.size 36 #[.bool o, .int .u64 (pn : Int), .int .u64 (pt : Int)] (opens d) none none w5) := Lib.hid ⟨HPA.out, fun v e => (by cases e), fun v e => (by cases e), HS5.out, opens_ok HOK.out⟩
  have s5 : w5.cell? ⟨w.heap.size, 0, none⟩ = some (.bool o) := (HS5.out.cell 0).trans rfl
  clear hd hY hFk hvk hsk hB0 hN HN HB4 HS4 hR hb5 HPA HB5 HS5 s0 s1 s2 HB3 hm4 hz3
  go_upto_region 7 with (fail)
  go_region_held3 (fun W => W.cell? ⟨w.heap.size, 0, none⟩ = some (.bool o)) (first | go_keep | exact (HST.out.sb.cell 0).trans rfl) ((first
    | (go_at_call 15; (refine (os_open (by first | exact HST.out | exact HST.out.drew)).mono ?_); rintro e w12 ⟨v1, rfl, hst⟩; have HST := Lib.hid hst)
    | (go_at_call 16; (refine (os_ropen (by first | exact HST.out | exact HST.out.drew)).mono ?_); rintro e w12 ⟨v2, rfl, hst⟩; have HST := Lib.hid hst)
    | (go_at_call 14; (refine (os_same (by first | exact HST.out | exact HST.out.drew)).mono ?_); rintro e w12 ⟨rfl, hst⟩; have HST := Lib.hid hst)
    | (go_at_call 17; (refine (os_out (by first | exact HST.out | exact HST.out.drew)).mono ?_); rintro e w12 ⟨rfl, hst⟩; have HST := Lib.hid hst; rw [← HDO.out])))
  have HPA := Lib.hid HST.out.pa
  have HLB := Lib.hid HSM.out.1
  clear HST s5
  go_wp2_with fail
  go_loopw [56] (fun iv wr => ∃ (k : Nat) (d : PeerD) (vk : Nat → Value) (sk : Nat → List UInt8 × Bool) (Y : RX), iv = .int .i64 (k : Int) ∧ k ≤ l.length ∧ Hid (PA w B0 b m Fk q wr d d vk sk sk Y) ∧ Hid (DOk k d)) (fun iv _ => l.length - (intOf iv).toNat)
  case atStart => exact ⟨0, d, vk, sk, Y, rfl, Nat.zero_le _, HPA, HOK⟩
  case round =>
    clear HPA HOK HDO
    obtain ⟨k, d, vk, sk, Y, rfl, hk, HPA, HOK⟩ := hrel
    by_cases hlt : k < l.length
    · obtain ⟨g, off, Ab, cb, Ai, ci, A1, c1, A2, c2, rfl, hgB, hr, hnow, hbc, hbm, hbat, hmat⟩ := ActsAt.range HAT.out hlt
      have i1 : (0 : Int) ≤ (k : Int) := by omega
      have i2 : (k : Int) < (l.length : Int) := by omega
      have hlb100 := HLB.out
      have hsz := HSM.out.2 _ (List.getElem_mem hlt)
      have HK1 := Lib.hid (show k + 1 ≤ l.length from hlt)
      generalize l[k] = x at *
      obtain ⟨cs, hcs⟩ : ∃ cs, cs = actCells x (.slice Ab x.bytes.length cb) (.slice Ai x.msg.ids.length ci) (.slice A1 x.msg.tx.ins.length c1) (.slice A2 x.msg.tx.outs.length c2) := ⟨_, rfl⟩
      have HL := Lib.hid (show cs.length = 11 by rw [hcs]; rfl)
      have HONE := Lib.hid (show ∀ u ∈ cs, u.oneCell' = true by rw [hcs]; exact act_one _ _ _ _ _ _ _ _ _ _ _ _ _)
      rw [← hcs] at hr
      have HR := Lib.hid (show wr.rangeAt g (off + k * 11) cs from fun r u hu => (HPA.out.low.cell (p := ⟨g, _, none⟩) hgB).trans (hr r u hu))
      obtain ⟨wx, hwx⟩ : ∃ wx, wx = wr.alloc (.cells cs.toArray 53) := ⟨_, rfl⟩
      obtain ⟨XA, hXA⟩ : ∃ XA, XA = wr.heap.size := ⟨_, rfl⟩
      have hbx : Below wr.heap.size wr wx := by rw [hwx]; exact Joins.below_alloc1 _ _
      have HPX := Lib.hid (HPA.out.lowered hbx)
      have HKX := Lib.hid (show Bk wx XA 53 (actCells x (.slice Ab x.bytes.length cb) (.slice Ai x.msg.ids.length ci) (.slice A1 x.msg.tx.ins.length c1) (.slice A2 x.msg.tx.outs.length c2)).toArray by rw [hwx, ← hcs, hXA]; exact Bk.new _ _ _)
      have hXB : B0 ≤ XA := by rw [hXA]; exact HPA.out.bw
      have hXlt : XA < wx.heap.size := HKX.out.lt
      have hXown : ∀ j i, j < 2 → (vk j).ownBlock = some i → i < XA := fun j i hj hi => by rw [hXA]; exact (HPA.out.own hj hi).2
      have HXO := Lib.hid hXown
      have HBA := Lib.hid hbat
      have HMA := Lib.hid hmat
      obtain ⟨k0, k1, k2, k3, k4, k5, k6, k7, k8, k9, k10⟩ := act_cells HKX.out
      have HKK := Lib.hid k10
      clear hr hcs hbx hmat hbat k3 k4 k5 k6 k7 k8 k9 hXown
      go_upto_region 12 with (refine wpList_elem rfl rfl rfl 53 (.tmp 58) (.tmp 8) (.tmp 59) rfl rfl rfl g (off + k * 11) (by rfl) cs _ HR.out Tryd.underlying53 rfl (by rw [HL.out]; exact size_act) za HZA.out (by rw [HZAL.out, HL.out]) HONE.out (by rfl) (by rfl) ?_)
      rw [← hwx, ← hXA]
      clear hwx hXA
      go_upto_block 2 with (fail)
      go_cut [9, 10, 11, 12, 13, 14, 15, 16, 17, 18] from 57 to 158 (fun _ _ _ _ _ _ _ _ _ _ wy => ∃ (d' : PeerD) (vk' : Nat → Value) (sk' : Nat → List UInt8 × Bool) (Y' : RX), Hid (PA w B0 b m Fk q wy d' d' vk' sk' sk' Y') ∧ Hid (DOk (k + 1) d'))
      case first =>
        by_cases h0 : x.kind = 0
        · have e0 : (x.kind == 0) = true := by rw [beq_iff_eq]; exact h0
          have HST : Hid (ST w B0 wx.heap.size b m Fk q d sk x.lane x.bytes XA (actCells x (.slice Ab x.bytes.length cb) (.slice Ai x.msg.ids.length ci) (.slice A1 x.msg.tx.ins.length c1) (.slice A2 x.msg.tx.outs.length c2)).toArray none none wx) := Lib.hid (by
            have hfl := HPX.out.fl
            refine ⟨⟨vk, Y, HPX.out, fun j i hj hi => ⟨by have := HXO.out j i hj hi; omega, fun _ => by have := HXO.out j i hj hi; omega⟩⟩, fun rv pl e => (by cases e), fun rv e => (by cases e), HKX.out, ⟨hXB, hXlt, Nat.le_refl _⟩, ?_, fun j hj => ⟨(hfl j hj).st, by have := (hfl j hj).small22; omega⟩⟩
            rcases lane_cases x.lane with hl | ⟨j, hj, hl⟩
            · rw [its_no hl]; simp
            · rw [hl, its_k hj]
              have h1 := Flo.feed_count (sk j) x.bytes
              have h2 := (hfl j hj).small22
              omega)
          clear h0 HKX HK1 HPX HPA HXO k10 HKK
          go_upto_region 14 with (fail)
          go_region_held3 (fun W => W.cell? ⟨XA, 1, none⟩ = some (.int .i64 x.lane) ∧ W.cell? ⟨XA, 2, none⟩ = some (.slice Ab x.bytes.length cb)) (first | go_keep | exact ⟨(act_cells HST.out.act).2.1, (act_cells HST.out.act).2.2.1⟩) ((first
            | (go_at_call 10; (refine (st_read (by first | exact HST.out | exact HST.out.drew) Ab x.bytes.length cb rfl HBA.out HLY.out (by omega) hbc hbm).mono ?_); rintro e w12 ⟨rv1, rfl, hst⟩; have HST := Lib.hid hst)
            | (go_at_call 9; (refine (st_plain (by first | exact HST.out | exact HST.out.drew)).mono ?_); rintro e w12 ⟨rv1, rfl, hst⟩; have HST := Lib.hid hst)
            | (go_at_call 18; (refine (st_rread (by first | exact HST.out | exact HST.out.drew) Ab x.bytes.length cb rfl HBA.out (by omega) hbc hbm).mono ?_); rintro e w12 ⟨rv2, rfl, hst⟩; have HST := Lib.hid hst)
            | (go_at_call 11; (refine (st_same (by first | exact HST.out | exact HST.out.drew)).mono ?_); rintro e w12 ⟨rfl, hst⟩; have HST := Lib.hid hst)))
          all_goals go_wp2_with fail
          all_goals go_meet
          all_goals
            obtain ⟨vk', Y', hp, _⟩ := HST.out.pa
            exact ⟨d, vk', nxt x.lane sk x.bytes, Y', Lib.hid hp, Lib.hid HOK.out.more⟩
        by_cases h1 : x.kind = 1
        · have e0 : (x.kind == 0) = false := by rw [beq_eq_false_iff_ne]; exact h0
          have e1 : (x.kind == 1) = true := by rw [beq_iff_eq]; exact h1
          obtain ⟨cs7, hcs7⟩ : ∃ cs7 : List Value, cs7 = [.int .i64 x.msg.kind, .int .u64 (x.msg.n : Int), .int .u32 (x.msg.code : Int), .slice Ai x.msg.ids.length ci, .int .u32 (x.msg.tx.version : Int), .slice A1 x.msg.tx.ins.length c1, .slice A2 x.msg.tx.outs.length c2] := ⟨_, rfl⟩
          have HV : P22.msgV x.msg.kind (x.msg.n : Int) (x.msg.code : Int) ⟨Ai, x.msg.ids.length, ci, (x.msg.tx.version : Int), A1, x.msg.tx.ins.length, c1, A2, x.msg.tx.outs.length, c2⟩ = .agg cs7.toArray := by rw [hcs7]; rfl
          have HL7 := Lib.hid (show cs7.length = 7 by rw [hcs7]; rfl)
          have HR7 : Hid (∀ W, Bk W XA 53 (actCells x (.slice Ab x.bytes.length cb) (.slice Ai x.msg.ids.length ci) (.slice A1 x.msg.tx.ins.length c1) (.slice A2 x.msg.tx.outs.length c2)).toArray → W.rangeAt XA 3 cs7) := Lib.hid (fun W hW r u hu => by
            rw [hcs7] at hu
            rw [hW.cell]
            match r, hu with
            | 0, hu => exact hu
            | 1, hu => exact hu
            | 2, hu => exact hu
            | 3, hu => exact hu
            | 4, hu => exact hu
            | 5, hu => exact hu
            | 6, hu => exact hu
            | r + 7, hu => simp at hu)
          have HH := Lib.hid (hear_any b d x.msg.kind (x.msg.n : Int) (x.msg.code : Int) ⟨Ai, x.msg.ids.length, ci, (x.msg.tx.version : Int), A1, x.msg.tx.ins.length, c1, A2, x.msg.tx.outs.length, c2⟩ wx HPX.out.peer (by omega) HOK.out.step)
          have HH2 := Lib.hid (fun W (Z : RX) (h : IsR Z W m d) => rhear_any m d x.msg.kind (x.msg.n : Int) (x.msg.code : Int) ⟨Ai, x.msg.ids.length, ci, (x.msg.tx.version : Int), A1, x.msg.tx.ins.length, c1, A2, x.msg.tx.outs.length, c2⟩ W h (by omega) HOK.out.step)
          have HHO := Lib.hid (heard_ok HOK.out x.msg.kind (x.msg.n : Int) (x.msg.code : Int) (by have := HMA.out.n; omega))
          rw [HV] at HH HH2
          unfold HearP at HH
          unfold RHearP at HH2
          generalize heard d x.msg.kind (x.msg.n : Int) (x.msg.code : Int) = hq at HH HH2 HHO
          obtain ⟨ho, he, hm, hdd⟩ := hq
          simp only at HH HH2 HHO
          have HRX := Lib.hid (HR7.out wx HKX.out)
          have hlb := HPX.out.lt.1
          have hlm := HPX.out.lt.2.1
          clear h0 h1 hcs7 HV k1 k2 k10 HKK HPA HXO
          go_wp2_with (refine wpList_load_mid rfl 51 (.tmp 83) rfl XA 3 (by rfl) cs7 _ HRX.out Tryd.underlying51 rfl (by rw [HL7.out]; exact size_msg) ?_)
          refine HH.out.mono ?_
          rintro e w6 ⟨v, rfl, g1, g2, g3⟩
          obtain ⟨Ao, co, rfl⟩ := own_anyv g1
          have HP6 := Lib.hid (HPX.out.setP g2 g3)
          have HK6 := Lib.hid (HKX.out.kp g3 (by omega))
          have HO6 := Lib.hid g1
          have HRX := Lib.hid (HR7.out w6 HK6.out)
          have hx6 : XA < w6.heap.size := HK6.out.lt
          clear g1 g2 g3 HH HPX
          go_upto_region 18 with (fail)
          go_wp2_with (refine wpList_load_mid rfl 51 (.tmp 91) rfl XA 3 (by rfl) cs7 _ HRX.out Tryd.underlying51 rfl (by rw [HL7.out]; exact size_msg) ?_)
          refine (HH2.out w6 _ HP6.out.doc).mono ?_
          rintro e w7 ⟨v2, rfl, g1, g2, g3⟩
          obtain ⟨Ao2, co2, rfl⟩ := own_anyv g1
          have HP7 := Lib.hid (HP6.out.setD g2 g3)
          have HO7 := Lib.hid (HO6.out.kp g3 (fun i hi e => by omega))
          have HQ7 := Lib.hid g1
          clear g1 g2 g3 HH2 HP6 HO6
          go_wp2_with fail
          refine (samemsgs_any ho _ _ _ _ w7 HO7.out HQ7.out HHO.out.2).mono ?_
          rintro e w8 ⟨rfl, hb8⟩
          have HP8 := Lib.hid (HP7.out.lowered hb8)
          clear hb8
          go_wp2_with fail
          go_meet
          exact ⟨hdd, vk, sk, Y, HP8, Lib.hid HHO.out.1.more⟩
        by_cases h2 : x.kind = 2
        · have e0 : (x.kind == 0) = false := by rw [beq_eq_false_iff_ne]; exact h0
          have e1 : (x.kind == 1) = false := by rw [beq_eq_false_iff_ne]; exact h1
          have e2 : (x.kind == 2) = true := by rw [beq_iff_eq]; exact h2
          have hk10 : k ≤ 1000 := by omega
          have HH := Lib.hid (tick_any b d x.now wx HPX.out.peer HOK.out.since (by omega) (by have := HOK.out.pings; omega))
          have HH2 := Lib.hid (fun W (Z : RX) (h : IsR Z W m d) => rtick_any m d x.now W h HOK.out.since (by have := HOK.out.pings; omega))
          have HHO := Lib.hid (ticked_ok HOK.out hk10 x.now hnow)
          unfold TickP at HH
          unfold RTickP at HH2
          generalize ticked d x.now = hq at HH HH2 HHO
          obtain ⟨ho, hs, hdd⟩ := hq
          simp only at HH HH2 HHO
          have hlb := HPX.out.lt.1
          have hlm := HPX.out.lt.2.1
          clear h0 h1 h2 k1 k2 HPA HXO
          go_wp2_with fail
          refine HH.out.mono ?_
          rintro e w6 ⟨v, rfl, g1, g2, g3⟩
          obtain ⟨Ao, co, rfl⟩ := own_anyv g1
          have HP6 := Lib.hid (HPX.out.setP g2 g3)
          have HK6 := Lib.hid (HKX.out.kp g3 (by omega))
          have HO6 := Lib.hid g1
          have q10 : w6.cell? ⟨XA, 10, none⟩ = some (.int .u64 (x.now : Int)) := (HK6.out.cell 10).trans rfl
          have hx6 : XA < w6.heap.size := HK6.out.lt
          clear g1 g2 g3 HH HPX
          go_wp2_with fail
          refine (HH2.out w6 _ HP6.out.doc).mono ?_
          rintro e w7 ⟨v2, rfl, g1, g2, g3⟩
          obtain ⟨Ao2, co2, rfl⟩ := own_anyv g1
          have HP7 := Lib.hid (HP6.out.setD g2 g3)
          have HO7 := Lib.hid (HO6.out.kp g3 (fun i hi e => by omega))
          have HQ7 := Lib.hid g1
          clear g1 g2 g3 HH2 HP6 HO6
          go_wp2_with fail
          refine (samemsgs_any ho _ _ _ _ w7 HO7.out HQ7.out HHO.out.2).mono ?_
          rintro e w8 ⟨rfl, hb8⟩
          have HP8 := Lib.hid (HP7.out.lowered hb8)
          clear hb8
          go_wp2_with fail
          go_meet
          exact ⟨hdd, vk, sk, Y, HP8, Lib.hid HHO.out.1⟩
        · have e0 : (x.kind == 0) = false := by rw [beq_eq_false_iff_ne]; exact h0
          have e1 : (x.kind == 1) = false := by rw [beq_eq_false_iff_ne]; exact h1
          have e2 : (x.kind == 2) = false := by rw [beq_eq_false_iff_ne]; exact h2
          go_wp2_with fail
          go_meet
          exact ⟨d, vk, sk, Y, HPX, Lib.hid HOK.out.more⟩
      case rest =>
      clear HPA HPX HKX HOK k0 k1 k2 k10 HKK HXO
      obtain ⟨d', vk', sk', Y', HPA, HOK⟩ := hcut
      generalize wc = wy at *
      cases hrd : decide (d'.step = 2) with
      | true =>
        have HRY : Hid (∀ n : Nat, Calls Tryd.prog 23 #[.pointer (some ⟨b, 0, none⟩)] (wy.drewN n) fun e w' => e = .returned (.bool true) ∧ w' = wy.drewN n) := Lib.hid (fun n => (ready_any b d' (wy.drewN n) (HPA.out.lowered (below_drewN (Below.refl _ _) n)).peer).mono fun e w' ⟨h1, h2⟩ => ⟨by rw [h1, show ((d'.step : Int) == 2) = decide (d'.step = 2) by rw [Bool.eq_iff_iff]; simp; omega, hrd], h2.symm⟩)
        have HSY : Hid (∀ n : Nat, Calls Tryd.prog 24 #[.pointer (some ⟨b, 0, none⟩)] (wy.drewN n) fun e w' => e = .returned (.bool d'.takes) ∧ w' = wy.drewN n) := Lib.hid (fun n => (stem_any b d' (wy.drewN n) (HPA.out.lowered (below_drewN (Below.refl _ _) n)).peer).mono fun e w' ⟨h1, h2⟩ => ⟨by rw [h1, show ((d'.step : Int) == 2) = decide (d'.step = 2) by rw [Bool.eq_iff_iff]; simp; omega, hrd]; rfl, h2.symm⟩)
        obtain ⟨_, _, _, _, m9, m10, _⟩ := HPA.out.doc.cells
        rw [hrd] at m9
        have hmlt : m < wy.heap.size := HPA.out.doc.lt
        have HPQ := Lib.hid (fun nq => HPA.out.lowered (below_drewN (Below.refl wy.heap.size wy) nq))
        clear hrd HPA
        go_upto_region 26 with (fail)
        go_quiet (first | exact Calls.quiet_of_same (HRY.out _) | exact Calls.quiet_of_same (HSY.out _))
        go_wp2_with fail
        go_roundw
        case rel => exact ⟨k + 1, d', vk', sk', Y', by go_num, HK1.out, Lib.hid (HPQ.out _), HOK⟩
        case measure => have := HK1.out; simp [intOf]; omega
      | false =>
        have HRY : Hid (∀ n : Nat, Calls Tryd.prog 23 #[.pointer (some ⟨b, 0, none⟩)] (wy.drewN n) fun e w' => e = .returned (.bool false) ∧ w' = wy.drewN n) := Lib.hid (fun n => (ready_any b d' (wy.drewN n) (HPA.out.lowered (below_drewN (Below.refl _ _) n)).peer).mono fun e w' ⟨h1, h2⟩ => ⟨by rw [h1, show ((d'.step : Int) == 2) = decide (d'.step = 2) by rw [Bool.eq_iff_iff]; simp; omega, hrd], h2.symm⟩)
        have HSY : Hid (∀ n : Nat, Calls Tryd.prog 24 #[.pointer (some ⟨b, 0, none⟩)] (wy.drewN n) fun e w' => e = .returned (.bool false) ∧ w' = wy.drewN n) := Lib.hid (fun n => (stem_any b d' (wy.drewN n) (HPA.out.lowered (below_drewN (Below.refl _ _) n)).peer).mono fun e w' ⟨h1, h2⟩ => ⟨by rw [h1, show ((d'.step : Int) == 2) = decide (d'.step = 2) by rw [Bool.eq_iff_iff]; simp; omega, hrd]; rfl, h2.symm⟩)
        obtain ⟨_, _, _, _, m9, m10, _⟩ := HPA.out.doc.cells
        rw [hrd] at m9
        have hmlt : m < wy.heap.size := HPA.out.doc.lt
        have HPQ := Lib.hid (fun nq => HPA.out.lowered (below_drewN (Below.refl wy.heap.size wy) nq))
        clear hrd HPA
        go_upto_region 26 with (fail)
        go_quiet (first | exact Calls.quiet_of_same (HRY.out _) | exact Calls.quiet_of_same (HSY.out _))
        go_wp2_with fail
        go_roundw
        case rel => exact ⟨k + 1, d', vk', sk', Y', by go_num, HK1.out, Lib.hid (HPQ.out _), HOK⟩
        case measure => have := HK1.out; simp [intOf]; omega
    · have hkl : k = l.length := by omega
      go_wp2_with fail
      go_ret
      exact ⟨rfl, HPA.out.low⟩
end Go.Proofs.YtpacgblddeoheaaDoor.P22
