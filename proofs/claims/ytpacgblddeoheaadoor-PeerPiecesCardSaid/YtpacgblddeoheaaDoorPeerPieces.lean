/- PeerPieces: the walk. -/
import Derived.Test.YtpacgblddeoheaaDoorPrPS
namespace Go.Proofs.YtpacgblddeoheaaDoor.P22
open Go.RowKit Go.Deep M8 T7
set_option linter.unusedVariables false
set_option linter.unusedSimpArgs false
set_option maxRecDepth 100000
set_option maxHeartbeats 4000000
attribute [local go_sem ↓] Go.wp_at_zero Go.wp_at_succ

/-- what is left of a lane's bytes, and what came of the rest -/
structure LR (w : World) (a : List UInt8) (A : Option Addr) (c : Nat) (r : List UInt8) (its : List Flo.Item) (s : List UInt8 × Bool) : Prop where
  rc : r.length ≤ c
  cm : c ≤ maxLen
  at_ : BytesAt w w.heap.size A r
  tot : Flo.feed ([], false) a = (its ++ (Flo.feed s r).1, (Flo.feed s r).2)
  len : r.length ≤ a.length
theorem LR.next {w : World} {a : List UInt8} {A : Option Addr} {c : Nat} {r : List UInt8} {its : List Flo.Item} {s : List UInt8 × Bool} (h : LR w a A c r its s) (hs : Flo.St s) {k : Nat} (hk : k ≤ r.length) :
    LR w a (if c = k then A else Option.map (fun x => x.add k) A) (c - k) (r.drop k) (its ++ (Flo.feed s (r.take k)).1) (Flo.feed s (r.take k)).2 := by
  refine ⟨by rw [List.length_drop]; have := h.rc; omega, by have := h.cm; omega, bytes_next h.at_ hk h.rc, ?_, by rw [List.length_drop]; have := h.len; omega⟩
  have e := Flo.feed_append hs (r.take k) (r.drop k)
  rw [List.take_append_drop] at e
  have h0 := h.tot
  rw [e] at h0
  simp only at h0
  rw [h0, List.append_assoc]
theorem LR.count {w : World} {a : List UInt8} {A : Option Addr} {c : Nat} {r : List UInt8} {its : List Flo.Item} {s : List UInt8 × Bool} (h : LR w a A c r its s) : its.length + (Flo.feed s r).1.length ≤ a.length + 1 := by
  have h1 := Flo.feed_count ([], false) a
  rw [h.tot, List.length_append] at h1
  simpa using h1
theorem LR.ne {w : World} {a : List UInt8} {A : Option Addr} {c : Nat} {r : List UInt8} {its : List Flo.Item} {s : List UInt8 × Bool} (h : LR w a A c r its s) : ∀ x, A = some x → 0 < r.length → x.block < w.heap.size := fun x hx h0 => by
  obtain ⟨q, of', hA', hq, _⟩ := BytesAt.cell h.at_ (i := 0) h0
  rw [hA'] at hx; cases hx; exact hq
theorem IsPeer.ptrs {F G : Nat} {q : Addr} {w : World} {b : Nat} {d : PeerD} (h : IsPeer (some ⟨F, 0, none⟩, some ⟨G, 0, none⟩, q) w b d) : w.cell? ⟨b, 4, none⟩ = some (.pointer (some ⟨F, 0, none⟩)) ∧ w.cell? ⟨b, 5, none⟩ = some (.pointer (some ⟨G, 0, none⟩)) := by
  obtain ⟨f, g, q, ⟨h1, h2, h3⟩, hb⟩ := h
  simp only at h1 h2
  subst h1 h2
  exact ⟨(hb.cell 4).trans rfl, (hb.cell 5).trans rfl⟩
theorem take_len {r : List UInt8} {k : Nat} (h : k ≤ r.length) : (r.take k).length = k := by rw [List.length_take]; omega
/-- Read of a lane's next bytes -/
theorem read_lane (b k F B0 : Nat) (hk2 : k < 2) (w w0 : World) (A : Option Addr) (m c : Nat) (bs : List UInt8) (hbm : bs.length = m) (vb : Value) (s : List UInt8 × Bool) (hptr : w.cell? ⟨b, 4 + k, none⟩ = some (.pointer (some ⟨F, 0, none⟩))) (hF : F < B0) (hB : B0 ≤ w.heap.size) (hs : FlowS w F B0 vb s)
    (hat : BytesAt w0 w0.heap.size A bs) (h0 : w0.heap.size ≤ F) (hb : Below w0.heap.size w0 w) (hlay : Laid w0) (hbl : m ≤ 1000000000) (hc : m ≤ c) (hm : c ≤ maxLen) :
    Calls Tryd.prog 10 #[.pointer (some ⟨b, 0, none⟩), .int .i64 (k : Int), .slice A m c] w (ReadPost w F B0 vb (k : Int) (Flo.feed s bs)) := by
  subst hbm
  have l1 := hlay.lc
  have l2 := hlay.lf
  exact read_any b k F B0 c hk2 A bs vb s w hptr hF hB hs ((hat.below hb).mono (by omega)) (fun a ha hp => by
    obtain ⟨q, of', hA', hq, _⟩ := BytesAt.cell hat (i := 0) hp
    rw [hA'] at ha; cases ha; show q ≠ F; omega) (hlay.below hb) (by omega) (by omega) (by omega) (by omega) hbl hc hm
theorem peerPieces_walk (w : World) (hlay : Laid w) (A0 : Option Addr) (n0 c0 : Nat) (l0 : List UInt8) (hl0 : l0.length = n0) (hc0 : n0 ≤ c0) (hm0 : c0 ≤ maxLen) (hat0 : BytesAt w w.heap.size A0 l0)
    (A1 : Option Addr) (n1 c1 : Nat) (l1 : List UInt8) (hl1 : l1.length = n1) (hc1 : n1 ≤ c1) (hm1 : c1 ≤ maxLen) (hat1 : BytesAt w w.heap.size A1 l1)
    (A2 : Option Addr) (n2 c2 : Nat) (cs : List Nat) (hl2 : cs.length = n2) (hc2 : n2 ≤ c2) (hm2 : c2 ≤ maxLen) (hat2 : At 1 IsCut w w.heap.size A2 cs) :
    Calls Tryd.prog 3 #[.slice A0 n0 c0, .slice A1 n1 c1, .slice A2 n2 c2] w fun r w' => r = .returned (.bool true) ∧ Below w.heap.size w w' := by
  have HLY := Lib.hid hlay
  have HAT2 := Lib.hid hat2
  have HL2 := Lib.hid hl2
  have HAL := Lib.hid (P22.alive_any w)
  have LR0 := Lib.hid (show LR w l0 A0 c0 l0 [] ([], false) from ⟨by omega, hm0, hat0, by simp, Nat.le_refl _⟩)
  have LR1 := Lib.hid (show LR w l1 A1 c1 l1 [] ([], false) from ⟨by omega, hm1, hat1, by simp, Nat.le_refl _⟩)
  have HL0 := Lib.hid hl0
  have HL1 := Lib.hid hl1
  clear hlay hat0 hat1 hat2 hl0 hl1 hl2
  go_enter Tryd.func3, Tryd.ntmps3
  go_wp2_with fail
  refine HAL.out.mono ?_
  rintro e w1 ⟨rfl, hb1⟩
  have HB1 := Lib.hid hb1
  clear hb1 HAL
  by_cases h1 : 10000 < n0
  · have h1' : (10000 : Int) < (n0 : Int) := by omega
    go_wp2_with fail
    go_ret
    exact ⟨rfl, HB1.out⟩
  by_cases h2 : 10000 < n1
  · have h1' : ¬ (10000 : Int) < (n0 : Int) := by omega
    have h2' : (10000 : Int) < (n1 : Int) := by omega
    go_wp2_with fail
    go_ret
    exact ⟨rfl, HB1.out⟩
  by_cases h3 : 300 < n2
  · have h1' : ¬ (10000 : Int) < (n0 : Int) := by omega
    have h2' : ¬ (10000 : Int) < (n1 : Int) := by omega
    have h3' : (300 : Int) < (n2 : Int) := by omega
    go_wp2_with fail
    go_ret
    exact ⟨rfl, HB1.out⟩
  have h1' : ¬ (10000 : Int) < (n0 : Int) := by omega
  have h2' : ¬ (10000 : Int) < (n1 : Int) := by omega
  have h3' : ¬ (300 : Int) < (n2 : Int) := by omega
  go_wp2_with fail
  all_goals try (exfalso; omega)
  refine (new_any true 0 0 w1).mono ?_
  rintro e w2 ⟨b0, F0, G0, q0, rfl, hN0⟩
  have HB2 := Lib.hid (HB1.out.trans (hN0.below.mono HB1.out.size))
  have HN0 := Lib.hid hN0
  have hs1 := HB1.out.size
  have hb0 := hN0.hb
  clear hN0
  go_wp2_with fail
  refine (new_any true 0 0 w2).mono ?_
  rintro e w3 ⟨b1, F, G, q1, rfl, hN1⟩
  have HB3 := Lib.hid (HB2.out.trans (hN1.below.mono HB2.out.size))
  have HP0 := Lib.hid (HN0.out.peer.below hN1.below)
  have HP1 := Lib.hid hN1.peer
  have HF0 := Lib.hid (fun base => (HN0.out.fl base).kp (Kp.of_below (S := fun _ => False) hN1.below) (fun h => h) (fun _ _ h => h))
  have HG0 := Lib.hid (fun base => (HN0.out.gl base).kp (Kp.of_below (S := fun _ => False) hN1.below) (fun h => h) (fun _ _ h => h))
  have HF1 := Lib.hid hN1.fl
  have HG1 := Lib.hid hN1.gl
  have hb1' := hN1.hb
  have hne0 := HN0.out.ne
  have hne1 := hN1.ne
  have hlt0 := HN0.out.peer.lt
  have hlt1 := hN1.peer.lt
  obtain ⟨B0, hB0⟩ : ∃ B0, B0 = w3.heap.size := ⟨_, rfl⟩
  have hs2 := hN1.below.size
  clear hN1 HN0
  have HR0 := Lib.hid (read_lane b0 0 F0 B0 (by omega) w3 w A0 n0 c0 l0 HL0.out _ _ HP0.out.ptrs.1 (by omega) (by omega) (HF0.out B0) LR0.out.at_ (by omega) HB3.out HLY.out (by omega) hc0 hm0)
  go_wp2_with fail
  refine HR0.out.mono ?_
  rintro e w4 ⟨rv, v4, pw, rfl, g1, g2, g3, g4, g5, g6, g7⟩
  obtain ⟨Ar, cr, hrv, _⟩ := own_form (show w4.ownsRow _ _ _ _ _ _ from g3)
  subst hrv
  have k34 : Kp (fun i => i = F0) w3 w4 := g7.mono (fun i _ h => h.elim id (fun h => by cases h))
  have hw0 : pw.map (·.1) = (Flo.feed ([], false) l0).1.map (came 0) := g4
  have hwc : pw.length ≤ 1000010000 := by
    have h1 := congrArg List.length hw0
    rw [List.length_map, List.length_map] at h1
    have h2 := Flo.feed_count ([], false) l0
    have h3 := HL0.out
    simp only [List.length_nil] at h2
    omega
  have HPL := Lib.hid (plain_any _ pw _ Ar pw.length cr w4 g3 g5 hwc)
  have HW4 := Lib.hid (show ∀ p ∈ pw, InPers (fun i => i < B0) w4 p from fun p hp => (g5 p hp).step (S := fun _ => False) (Kp.refl _ _) (fun _ _ h => h.elim) (fun i _ h => .inl (by omega)))
  have HW0 := Lib.hid hw0
  have HK34 := Lib.hid k34
  have hs4 := k34.size
  clear g1 g2 g3 g4 g5 g6 g7 hw0 k34 HR0
  go_wp2_with fail
  refine HPL.out.mono ?_
  rintro e w5 ⟨wv, rfl, hwv, hb5⟩
  obtain ⟨Aw, cw, hwvs, _⟩ := own_form (show w5.ownsRow _ _ _ _ _ _ from hwv)
  have HWV := Lib.hid hwv
  have hs5 := hb5.size
  have K35 := Lib.hid (show Kp (fun i => i = F0) w3 w5 from HK34.out.trans (Kp.of_below hb5))
  have HW5 := Lib.hid (show ∀ p ∈ pw, InPers (fun i => i < B0) w5 p from fun p hp => (HW4.out p hp).step (S := fun _ => False) (Kp.of_below hb5) (fun _ _ h => h.elim) (fun _ _ h => h))
  have HG5 := Lib.hid ((HG0.out B0).kp K35.out (by show ¬ G0 = F0; omega) (fun i hi => by cases hi))
  have HP05 := Lib.hid (HP0.out.kp K35.out (by show ¬ b0 = F0; omega))
  have HB5 := Lib.hid (Kp.from_elder HB3.out K35.out (fun i hi e => by omega))
  have HR1 := Lib.hid (read_lane b0 1 G0 B0 (by omega) w5 w A1 n1 c1 l1 HL1.out _ _ HP05.out.ptrs.2 (by omega) (by omega) HG5.out LR1.out.at_ (by omega) HB5.out HLY.out (by omega) hc1 hm1)
  clear hwv hb5 HPL HW4 HP0
  subst hwvs
  go_wp2_with fail
  refine HR1.out.mono ?_
  rintro e w6 ⟨rv, v6, po, rfl, g1, g2, g3, g4, g5, g6, g7⟩
  obtain ⟨Ar6, cr6, hrv, _⟩ := own_form (show w6.ownsRow _ _ _ _ _ _ from g3)
  subst hrv
  have k56 : Kp (fun i => i = G0) w5 w6 := g7.mono (fun i _ h => h.elim id (fun h => by cases h))
  have hw0 : po.map (·.1) = (Flo.feed ([], false) l1).1.map (came 1) := g4
  have hwc' : po.length ≤ 1000010000 := by
    have h1 := congrArg List.length hw0
    rw [List.length_map, List.length_map] at h1
    have h2 := Flo.feed_count ([], false) l1
    have h3 := HL1.out
    simp only [List.length_nil] at h2
    omega
  have HPL := Lib.hid (plain_any _ po _ Ar6 po.length cr6 w6 g3 g5 hwc')
  have HO6 := Lib.hid (show ∀ p ∈ po, InPers (fun i => i < B0) w6 p from fun p hp => (g5 p hp).step (S := fun _ => False) (Kp.refl _ _) (fun _ _ h => h.elim) (fun i _ h => .inl (by omega)))
  have HO0 := Lib.hid hw0
  have HK56 := Lib.hid k56
  have hs6 := k56.size
  clear g1 g2 g3 g4 g5 g6 g7 hw0 k56 HR1
  go_wp2_with fail
  refine HPL.out.mono ?_
  rintro e w7 ⟨ov, rfl, hov, hb7⟩
  obtain ⟨Ao, co, hovs, _⟩ := own_form (show w7.ownsRow _ _ _ _ _ _ from hov)
  have hs7 := hb7.size
  have K37 := Lib.hid (show Kp (fun i => i = F0 ∨ i = G0) w3 w7 from ((K35.out.mono (fun _ _ h => .inl h)).trans (HK56.out.mono (fun _ _ h => .inr h))).trans (Kp.of_below hb7))
  have K57 := Lib.hid (show Kp (fun i => i = G0) w5 w7 from HK56.out.trans (Kp.of_below hb7))
  have hwl := HWV.out.lt
  have hol := hov.lt
  have HPS := Lib.hid (show PS B0 F G w7 (.slice none 0 0) (.slice none 0 0) (.slice none 0 0) (.slice none 0 0) (.slice Aw pw.length cw) ov ([], false) ([], false) [] [] pw po from
    ⟨(HF1.out B0).kp K37.out (by show ¬ (F = F0 ∨ F = G0); omega) (fun i hi => by cases hi), (HG1.out B0).kp K37.out (by show ¬ (G = F0 ∨ G = G0); omega) (fun i hi => by cases hi), World.ownsRow_nil _ _ _ _, World.ownsRow_nil _ _ _ _,
      own_mono (HWV.out.kp K57.out (fun i hi e => by have := (hwl i hi).1; omega)) (by omega), own_mono hov (by omega), fun p hp => by simp at hp, fun p hp => by simp at hp,
      fun p hp => (HW5.out p hp).step K57.out (fun i _ e => by omega) (fun i _ h => by rcases h with h | h | h | h | h <;> first | exact h | cases h),
      fun p hp => (HO6.out p hp).step (S := fun _ => False) (Kp.of_below hb7) (fun _ _ h => h.elim) (fun i _ h => by rcases h with h | h | h | h | h <;> first | exact h | cases h),
      fun i hi => (by cases hi), fun i hi => (by cases hi), fun i hi => ⟨fun e => (by cases e), fun e => (by cases e), fun e => (by cases e), fun e => (by cases e)⟩, fun i hi => ⟨fun e => (by cases e), fun e => (by cases e), fun e => (by cases e), fun e => (by cases e)⟩, fun i hi => (by cases hi), ⟨by omega, by omega, by omega⟩, by omega⟩)
  have HP17 := Lib.hid (HP1.out.kp K37.out (by show ¬ (b1 = F0 ∨ b1 = G0); omega))
  have HB7 := Lib.hid (Kp.from_elder HB3.out K37.out (fun i hi e => by omega))
  obtain ⟨no, hno⟩ : ∃ no, no = po.length := ⟨_, rfl⟩
  obtain ⟨nw, hnw⟩ : ∃ nw, nw = pw.length := ⟨_, rfl⟩
  rw [hovs] at HPS ⊢
  rw [← hno, ← hnw] at HPS ⊢
  have HNO := Lib.hid hno
  have HNW := Lib.hid hnw
  obtain ⟨ie, hi, hz0, hz1, hz2'⟩ := info_parts rin_info
  have Ii := Lib.hid hi
  have Iz := Lib.hid hz0
  have Iz1 := Lib.hid hz1
  have Iz2 := Lib.hid hz2'
  have hptr0 := HP17.out.ptrs.1
  have hptr1 := HP17.out.ptrs.2
  have HPT0 := Lib.hid hptr0
  have HPT1 := Lib.hid hptr1
  have hBw7 : B0 ≤ w7.heap.size := by omega
  have hbB : b1 < B0 := by omega
  have hbF : b1 ≠ F ∧ b1 ≠ G := by omega
  have hwF : w.heap.size ≤ F ∧ w.heap.size ≤ G ∧ w.heap.size ≤ B0 := by omega
  clear hov hovs hb7 HPL HO6 HW5 HWV HF0 HG0 HF1 HG1 HG5 HP05 K35 K37 K57 HK34 HK56 hno hnw hi hz0 hz1 hz2' hptr0 hptr1 hwl hol hB0 hs1 hs2 hs4 hs5 hs6 hs7 hb0 hb1' hne0 hne1 hlt0 hlt1
  go_wp2_with fail
  go_loopw [0, 1, 11, 12, 44] (fun av bv xv yv iv wr => ∃ (j : Nat) (Aa : Option Addr) (ca : Nat) (ra : List UInt8) (ia : List Flo.Item) (sF : List UInt8 × Bool) (Ab : Option Addr) (cb : Nat) (rb : List UInt8) (ib : List Flo.Item) (sG : List UInt8 × Bool) (vF vG : Value) (px py : List IP),
    iv = .int .i64 (j : Int) ∧ j ≤ n2 ∧ av = .slice Aa ra.length ca ∧ bv = .slice Ab rb.length cb ∧ Hid (LR w l0 Aa ca ra ia sF) ∧ Hid (LR w l1 Ab cb rb ib sG) ∧ Hid (PS B0 F G wr vF vG xv yv (.slice Aw nw cw) (.slice Ao no co) sF sG px py pw po) ∧
    Hid (px.map (·.1) = ia.map (came 0)) ∧ Hid (py.map (·.1) = ib.map (came 1)) ∧ Hid (wr.cell? ⟨b1, 4, none⟩ = some (.pointer (some ⟨F, 0, none⟩))) ∧ Hid (wr.cell? ⟨b1, 5, none⟩ = some (.pointer (some ⟨G, 0, none⟩))) ∧ Hid (Below w.heap.size w wr)) (fun _ _ _ _ iv _ => n2 - (intOf iv).toNat)
  case atStart => exact ⟨0, A0, c0, l0, [], _, A1, c1, l1, [], _, _, _, [], [], rfl, Nat.zero_le _, by rw [HL0.out], by rw [HL1.out], LR0, LR1, HPS, Lib.hid rfl, Lib.hid rfl, HPT0, HPT1, HB7⟩
  case round =>
    clear HPS HPT0 HPT1 HB7
    obtain ⟨j, Aa, ca, ra, ia, sF, Ab, cb, rb, ib, sG, vF, vG, px, py, rfl, hj, rfl, rfl, LRa, LRb, HPS, HMx, HMy, HPT0r, HPT1r, HBR⟩ := hrel
    have hl0 := HL0.out
    have hl1 := HL1.out
    have hra := LRa.out.len
    have hrb := LRb.out.len
    have hrac := LRa.out.rc
    have hrbc := LRb.out.rc
    obtain ⟨na, hna⟩ : ∃ na, na = ra.length := ⟨_, rfl⟩
    obtain ⟨nb, hnb⟩ : ∃ nb, nb = rb.length := ⟨_, rfl⟩
    rw [← hna] at hra hrac
    rw [← hnb] at hrb hrbc
    have HNA := Lib.hid hna
    have HNB := Lib.hid hnb
    rw [← hna, ← hnb]
    clear hna hnb
    by_cases hlt : j < n2
    · obtain ⟨bc, oc, rfl, hbc, d0, hz⟩ := cut_cell (HAT2.out.below HBR.out) (i := j) (by rw [HL2.out]; exact hlt)
      obtain ⟨z, hzz⟩ : ∃ z, z = cs[j]'(by rw [HL2.out]; exact hlt) := ⟨_, rfl⟩
      rw [← hzz] at d0 hz
      have i1 : (0 : Int) ≤ (j : Int) := by omega
      have i2 : (j : Int) < (n2 : Int) := by omega
      have i3 : (0 : Int) ≤ (z : Int) := by omega
      have i4 : (z : Int) ≤ 65535 := by omega
      clear hzz hbc
      have hcase : ((j : Int) % 2 == 0) = true ∨ ((j : Int) % 2 == 0) = false := by cases ((j : Int) % 2 == 0) <;> simp
      rcases hcase with hpar | hpar
      · obtain ⟨k, hk⟩ : ∃ k, k = min z na := ⟨_, rfl⟩
        have hki : (if na < z then (na : Int) else (z : Int)) = (k : Int) := by split <;> omega
        have hkl : k ≤ ra.length := by rw [← HNA.out]; omega
        have hkn : k ≤ na := by omega
        have hk0 : (0 : Int) ≤ (k : Int) := by omega
        have hk1 : (k : Int) ≤ (na : Int) := by omega
        have hk2 : (k : Int) ≤ (ca : Int) := by omega
        have hk3 : k ≤ 10000 := by omega
        clear hk
        go_upto_region 13 with (fail)
        clear hki
        have HRD := Lib.hid (read_lane b1 0 F B0 (by omega) wr w Aa k ca (ra.take k) (take_len hkl) vF sF HPT0r.out HPS.out.lt.1 HPS.out.bw HPS.out.fF (BytesAt.take LRa.out.at_ k) (by omega) HBR.out HLY.out (by omega) (by omega) LRa.out.cm)
        have hcn := LRa.out.count
        go_wp2_with fail
        refine HRD.out.mono ?_
        rintro e w8 ⟨rv, v', ps, rfl, g1, g2, g3, g4, g5, g6, g7⟩
        obtain ⟨Ar, cr, hrv, _⟩ := own_form (show w8.ownsRow _ _ _ _ _ _ from g3)
        subst hrv
        obtain ⟨hps8, hip8⟩ := HPS.out.read g1 g2 g7 g5
        obtain ⟨np, hnp⟩ : ∃ np, np = ps.length := ⟨_, rfl⟩
        have hnp2 : np ≤ 1000010000 ∧ np ≤ 10001 := by
          have h1 := congrArg List.length g4
          rw [List.length_map, List.length_map] at h1
          have h2 := (LRa.out.next HPS.out.fF.st hkl).count; rw [List.length_append] at h2
          omega
        have HPL := Lib.hid (plain_any _ ps _ Ar np cr w8 (by rw [hnp]; exact g3) g5 hnp2.1)
        rw [← hnp]
        have HG4 := Lib.hid g4
        have HBR8 := Lib.hid (show Below w.heap.size w w8 from Kp.from_elder HBR.out g7 (fun i hi e => e.elim (fun e => by omega) (fun e => by have := (HPS.out.fF.lt.2 i e).1; omega)))
        have HPT08 := Lib.hid ((g7.cell (p := ⟨b1, 4, none⟩) (by have := HPS.out.bw; show b1 < _; omega) (fun e => e.elim (fun e => by have e' : b1 = F := e; omega) (fun e => by have := (HPS.out.fF.lt.2 _ e).1; have e' : B0 ≤ b1 := this; omega))).trans HPT0r.out)
        have HPT18 := Lib.hid ((g7.cell (p := ⟨b1, 5, none⟩) (by have := HPS.out.bw; show b1 < _; omega) (fun e => e.elim (fun e => by have e' : b1 = F := e; omega) (fun e => by have := (HPS.out.fF.lt.2 _ e).1; have e' : B0 ≤ b1 := this; omega))).trans HPT1r.out)
        have HPS8 := Lib.hid hps8
        have HIP8 := Lib.hid hip8
        have hs8 := g7.size
        have HNP := Lib.hid hnp
        clear g1 g2 g3 g4 g5 g6 g7 hps8 hip8 HRD hnp
        go_wp2_with fail
        refine HPL.out.mono ?_
        rintro e w9 ⟨pv, rfl, hpv, hb9⟩
        obtain ⟨Ap, cp, hpvs, _⟩ := own_form (show w9.ownsRow _ _ _ _ _ _ from hpv)
        subst hpvs
        rw [← HNP.out]
        have HPS9 := Lib.hid (HPS8.out.low hb9)
        have HIP9 := Lib.hid (show ∀ p ∈ ps, InPers (TT B0 v' _ _ _) w9 p from fun p hp => (HIP8.out p hp).step (S := fun _ => False) (Kp.of_below hb9) (fun _ _ h => h.elim) (fun _ _ h => h))
        have HSR := Lib.hid hpv.src
        have HPV := Lib.hid hpv
        have HBR9 := Lib.hid (HBR8.out.trans (hb9.mono HBR8.out.size))
        have hlt1 : b1 < w8.heap.size := by have := HPS8.out.bw; omega
        have HPT09 := Lib.hid ((hb9.cell (p := ⟨b1, 4, none⟩) hlt1).trans HPT08.out)
        have HPT19 := Lib.hid ((hb9.cell (p := ⟨b1, 5, none⟩) hlt1).trans HPT18.out)
        obtain ⟨Ax, cx, hxv, _⟩ := own_form (show w9.ownsRow _ _ _ _ _ _ from HPS9.out.xr)
        obtain ⟨nx, hnx⟩ : ∃ nx, nx = px.length := ⟨_, rfl⟩
        have hnx2 : nx ≤ 10001 := by
          have h1 := congrArg List.length HMx.out
          rw [List.length_map, List.length_map] at h1
          omega
        rw [← hnx] at hxv
        have HNX := Lib.hid hnx
        have HXR := Lib.hid (show w9.ownsRow B0 86 8 (.slice Ax nx cx) nx (px.flatMap ipCells) by
          have := HPS9.out.xr
          unfold RowIn at this
          rw [hxv, ← hnx] at this
          exact this)
        have HXE := Lib.hid hxv
        have hbw9 := HPS9.out.bw
        clear hb9 hnx hpv HPL HPS8 HIP8 HPT08 HPT18 HBR8
        subst hxv
        go_upto_region 18 with (at_builtin; go_must (refine wpList_app _ rfl (.tmp 57) (.tmp 63) _ rfl B0 86 ie _ 8 112 Tryd.underlying28 Ii.out Iz.out Iz1.out Iz2.out rfl (by decide) (.slice Ax nx cx) nx (px.flatMap ipCells) (by rfl) HXR.out Ap np cp (ps.flatMap ipCells) (by rfl) (by rw [HNP.out]; exact ips_len ps) HSR.out (ips_one HIP9.out) (by unfold maxLen; omega) (by omega) hbw9 ?_); intro xn w10 hrow hg hat)
        have HPS10 := Lib.hid (HPS9.out.app HIP9.out (by rw [← HNX.out, ← HNP.out]; exact hrow) hg hat)
        have hkg : Kp (fun i => (Value.slice Ax nx cx).ownBlock = some i) w9 w10 := (Kp.refl _ _).grown hg (fun k hk _ => hk)
        have hxlt := HPS9.out.xr.lt
        have HBR10 := Lib.hid (show Below w.heap.size w w10 from Kp.from_elder HBR9.out hkg (fun i hi e => by have := (hxlt i e).1; omega))
        have HPT010 := Lib.hid ((hkg.cell (p := ⟨b1, 4, none⟩) (by show b1 < _; omega) (fun e => by have := (hxlt _ e).1; have e' : B0 ≤ b1 := this; omega)).trans HPT09.out)
        have HPT110 := Lib.hid ((hkg.cell (p := ⟨b1, 5, none⟩) (by show b1 < _; omega) (fun e => by have := (hxlt _ e).1; have e' : B0 ≤ b1 := this; omega)).trans HPT19.out)
        clear hrow hg hat hkg hxlt HPS9 HIP9 HBR9 HPT09 HPT19 HXR
        generalize hA7 : (if ca = k then Aa else Option.map (fun x => x.add k) Aa) = A7
        have HLN := Lib.hid (show LR w l0 A7 (ca - k) (ra.drop k) _ _ by rw [← hA7]; exact LRa.out.next HPS.out.fF.st hkl)
        have HDL := Lib.hid (show (ra.drop k).length = na - k by rw [List.length_drop, ← HNA.out])
        have HMN := Lib.hid (show (px ++ ps).map (·.1) = (ia ++ (Flo.feed sF (ra.take k)).1).map (came 0) by rw [List.map_append, List.map_append, HMx.out, HG4.out]; rfl)
        clear hA7
        go_wp2_with fail
        go_roundw
        case rel => exact ⟨j + 1, A7, ca - k, ra.drop k, _, _, Ab, cb, rb, ib, sG, v', vG, px ++ ps, py, by go_num, by omega, by rw [HDL.out], by rw [HNB.out], HLN, LRb, HPS10, HMN, HMy, HPT010, HPT110, HBR10⟩
        case measure => simp [intOf]; omega
      · obtain ⟨k, hk⟩ : ∃ k, k = min z nb := ⟨_, rfl⟩
        have hki : (if nb < z then (nb : Int) else (z : Int)) = (k : Int) := by split <;> omega
        have hkl : k ≤ rb.length := by rw [← HNB.out]; omega
        have hkn : k ≤ nb := by omega
        have hk0 : (0 : Int) ≤ (k : Int) := by omega
        have hk1 : (k : Int) ≤ (nb : Int) := by omega
        have hk2 : (k : Int) ≤ (cb : Int) := by omega
        have hk3 : k ≤ 10000 := by omega
        clear hk
        go_upto_region 16 with (fail)
        clear hki
        have HPSW := Lib.hid HPS.out.swap
        clear HPS
        have HRD := Lib.hid (read_lane b1 1 G B0 (by omega) wr w Ab k cb (rb.take k) (take_len hkl) vG sG HPT1r.out HPSW.out.lt.1 HPSW.out.bw HPSW.out.fF (BytesAt.take LRb.out.at_ k) (by omega) HBR.out HLY.out (by omega) (by omega) LRb.out.cm)
        have hcn := LRb.out.count
        go_wp2_with fail
        refine HRD.out.mono ?_
        rintro e w8 ⟨rv, v', ps, rfl, g1, g2, g3, g4, g5, g6, g7⟩
        obtain ⟨Ar, cr, hrv, _⟩ := own_form (show w8.ownsRow _ _ _ _ _ _ from g3)
        subst hrv
        obtain ⟨hps8, hip8⟩ := HPSW.out.read g1 g2 g7 g5
        obtain ⟨np, hnp⟩ : ∃ np, np = ps.length := ⟨_, rfl⟩
        have hnp2 : np ≤ 1000010000 ∧ np ≤ 10001 := by
          have h1 := congrArg List.length g4
          rw [List.length_map, List.length_map] at h1
          have h2 := (LRb.out.next HPSW.out.fF.st hkl).count; rw [List.length_append] at h2
          omega
        have HPL := Lib.hid (plain_any _ ps _ Ar np cr w8 (by rw [hnp]; exact g3) g5 hnp2.1)
        rw [← hnp]
        have HG4 := Lib.hid g4
        have HBR8 := Lib.hid (show Below w.heap.size w w8 from Kp.from_elder HBR.out g7 (fun i hi e => e.elim (fun e => by omega) (fun e => by have := (HPSW.out.fF.lt.2 i e).1; omega)))
        have HPT08 := Lib.hid ((g7.cell (p := ⟨b1, 4, none⟩) (by have := HPSW.out.bw; show b1 < _; omega) (fun e => e.elim (fun e => by have e' : b1 = G := e; omega) (fun e => by have := (HPSW.out.fF.lt.2 _ e).1; have e' : B0 ≤ b1 := this; omega))).trans HPT0r.out)
        have HPT18 := Lib.hid ((g7.cell (p := ⟨b1, 5, none⟩) (by have := HPSW.out.bw; show b1 < _; omega) (fun e => e.elim (fun e => by have e' : b1 = G := e; omega) (fun e => by have := (HPSW.out.fF.lt.2 _ e).1; have e' : B0 ≤ b1 := this; omega))).trans HPT1r.out)
        have HPS8 := Lib.hid hps8
        have HIP8 := Lib.hid hip8
        have hs8 := g7.size
        have HNP := Lib.hid hnp
        clear g1 g2 g3 g4 g5 g6 g7 hps8 hip8 HRD hnp
        go_wp2_with fail
        refine HPL.out.mono ?_
        rintro e w9 ⟨pv, rfl, hpv, hb9⟩
        obtain ⟨Ap, cp, hpvs, _⟩ := own_form (show w9.ownsRow _ _ _ _ _ _ from hpv)
        subst hpvs
        rw [← HNP.out]
        have HPS9 := Lib.hid (HPS8.out.low hb9)
        have HIP9 := Lib.hid (show ∀ p ∈ ps, InPers (TT B0 v' _ _ _) w9 p from fun p hp => (HIP8.out p hp).step (S := fun _ => False) (Kp.of_below hb9) (fun _ _ h => h.elim) (fun _ _ h => h))
        have HSR := Lib.hid hpv.src
        have HPV := Lib.hid hpv
        have HBR9 := Lib.hid (HBR8.out.trans (hb9.mono HBR8.out.size))
        have hlt1 : b1 < w8.heap.size := by have := HPS8.out.bw; omega
        have HPT09 := Lib.hid ((hb9.cell (p := ⟨b1, 4, none⟩) hlt1).trans HPT08.out)
        have HPT19 := Lib.hid ((hb9.cell (p := ⟨b1, 5, none⟩) hlt1).trans HPT18.out)
        obtain ⟨Ay, cy, hyv, _⟩ := own_form (show w9.ownsRow _ _ _ _ _ _ from HPS9.out.xr)
        obtain ⟨nx, hnx⟩ : ∃ nx, nx = py.length := ⟨_, rfl⟩
        have hnx2 : nx ≤ 10001 := by
          have h1 := congrArg List.length HMy.out
          rw [List.length_map, List.length_map] at h1
          omega
        rw [← hnx] at hyv
        have HNX := Lib.hid hnx
        have HXR := Lib.hid (show w9.ownsRow B0 86 8 (.slice Ay nx cy) nx (py.flatMap ipCells) by
          have := HPS9.out.xr
          unfold RowIn at this
          rw [hyv, ← hnx] at this
          exact this)
        have HXE := Lib.hid hyv
        have hbw9 := HPS9.out.bw
        clear hb9 hnx hpv HPL HPS8 HIP8 HPT08 HPT18 HBR8
        subst hyv
        go_upto_region 18 with (at_builtin; go_must (refine wpList_app _ rfl (.tmp 73) (.tmp 79) _ rfl B0 86 ie _ 8 112 Tryd.underlying28 Ii.out Iz.out Iz1.out Iz2.out rfl (by decide) (.slice Ay nx cy) nx (py.flatMap ipCells) (by rfl) HXR.out Ap np cp (ps.flatMap ipCells) (by rfl) (by rw [HNP.out]; exact ips_len ps) HSR.out (ips_one HIP9.out) (by unfold maxLen; omega) (by omega) hbw9 ?_); intro xn w10 hrow hg hat)
        have HPS10 := Lib.hid (HPS9.out.app HIP9.out (by rw [← HNX.out, ← HNP.out]; exact hrow) hg hat)
        have hkg : Kp (fun i => (Value.slice Ay nx cy).ownBlock = some i) w9 w10 := (Kp.refl _ _).grown hg (fun k hk _ => hk)
        have hxlt := HPS9.out.xr.lt
        have HBR10 := Lib.hid (show Below w.heap.size w w10 from Kp.from_elder HBR9.out hkg (fun i hi e => by have := (hxlt i e).1; omega))
        have HPT010 := Lib.hid ((hkg.cell (p := ⟨b1, 4, none⟩) (by show b1 < _; omega) (fun e => by have := (hxlt _ e).1; have e' : B0 ≤ b1 := this; omega)).trans HPT09.out)
        have HPT110 := Lib.hid ((hkg.cell (p := ⟨b1, 5, none⟩) (by show b1 < _; omega) (fun e => by have := (hxlt _ e).1; have e' : B0 ≤ b1 := this; omega)).trans HPT19.out)
        clear hrow hg hat hkg hxlt HPS9 HIP9 HBR9 HPT09 HPT19 HXR
        generalize hA7 : (if cb = k then Ab else Option.map (fun x => x.add k) Ab) = A7
        have HLN := Lib.hid (show LR w l1 A7 (cb - k) (rb.drop k) _ _ by rw [← hA7]; exact LRb.out.next HPSW.out.fF.st hkl)
        have HDL := Lib.hid (show (rb.drop k).length = nb - k by rw [List.length_drop, ← HNB.out])
        have HMN := Lib.hid (show (py ++ ps).map (·.1) = (ib ++ (Flo.feed sG (rb.take k)).1).map (came 1) by rw [List.map_append, List.map_append, HMy.out, HG4.out]; rfl)
        clear hA7
        go_wp2_with fail
        go_roundw
        case rel => exact ⟨j + 1, Aa, ca, ra, ia, sF, A7, cb - k, rb.drop k, _, _, vF, v', px, py ++ ps, by go_num, by omega, by rw [HNA.out], by rw [HDL.out], LRa, HLN, Lib.hid HPS10.out.swap, HMx, HMN, HPT010, HPT110, HBR10⟩
        case measure => simp [intOf]; omega
    · obtain rfl : j = n2 := by omega
      have hba : ra.length = na := HNA.out.symm
      have hbb : rb.length = nb := HNB.out.symm
      have hna1 : na ≤ 10000 := by omega
      have hnb1 : nb ≤ 10000 := by omega
      have HRD := Lib.hid (read_lane b1 0 F B0 (by omega) wr w Aa na ca ra hba vF sF HPT0r.out HPS.out.lt.1 HPS.out.bw HPS.out.fF LRa.out.at_ (by omega) HBR.out HLY.out (by omega) (by omega) LRa.out.cm)
      have hcn := LRa.out.count
      go_wp2_with fail
      refine HRD.out.mono ?_
      rintro e w8 ⟨rv, v', ps, rfl, g1, g2, g3, g4, g5, g6, g7⟩
      obtain ⟨Ar, cr, hrv, _⟩ := own_form (show w8.ownsRow _ _ _ _ _ _ from g3)
      subst hrv
      obtain ⟨hps8, hip8⟩ := HPS.out.read g1 g2 g7 g5
      obtain ⟨np, hnp⟩ : ∃ np, np = ps.length := ⟨_, rfl⟩
      have hnp2 : np ≤ 1000010000 ∧ np ≤ 10001 := by
        have h1 := congrArg List.length g4
        rw [List.length_map, List.length_map] at h1
        have h2 := LRa.out.count
        omega
      have HPL := Lib.hid (plain_any _ ps _ Ar np cr w8 (by rw [hnp]; exact g3) g5 hnp2.1)
      rw [← hnp]
      have HG4 := Lib.hid g4
      have HBR8 := Lib.hid (show Below w.heap.size w w8 from Kp.from_elder HBR.out g7 (fun i hi e => e.elim (fun e => by omega) (fun e => by have := (HPS.out.fF.lt.2 i e).1; omega)))
      have HPT08 := Lib.hid ((g7.cell (p := ⟨b1, 4, none⟩) (by have := HPS.out.bw; show b1 < _; omega) (fun e => e.elim (fun e => by have e' : b1 = F := e; omega) (fun e => by have := (HPS.out.fF.lt.2 _ e).1; have e' : B0 ≤ b1 := this; omega))).trans HPT0r.out)
      have HPT18 := Lib.hid ((g7.cell (p := ⟨b1, 5, none⟩) (by have := HPS.out.bw; show b1 < _; omega) (fun e => e.elim (fun e => by have e' : b1 = F := e; omega) (fun e => by have := (HPS.out.fF.lt.2 _ e).1; have e' : B0 ≤ b1 := this; omega))).trans HPT1r.out)
      have HPS8 := Lib.hid hps8
      have HIP8 := Lib.hid hip8
      have hs8 := g7.size
      have HNP := Lib.hid hnp
      clear g1 g2 g3 g4 g5 g6 g7 hps8 hip8 HRD hnp
      go_wp2_with fail
      refine HPL.out.mono ?_
      rintro e w9 ⟨pv, rfl, hpv, hb9⟩
      obtain ⟨Ap, cp, hpvs, _⟩ := own_form (show w9.ownsRow _ _ _ _ _ _ from hpv)
      subst hpvs
      rw [← HNP.out]
      have HPS9 := Lib.hid (HPS8.out.low hb9)
      have HIP9 := Lib.hid (show ∀ p ∈ ps, InPers (TT B0 v' _ _ _) w9 p from fun p hp => (HIP8.out p hp).step (S := fun _ => False) (Kp.of_below hb9) (fun _ _ h => h.elim) (fun _ _ h => h))
      have HSR := Lib.hid hpv.src
      have HPV := Lib.hid hpv
      have HBR9 := Lib.hid (HBR8.out.trans (hb9.mono HBR8.out.size))
      have hlt1 : b1 < w8.heap.size := by have := HPS8.out.bw; omega
      have HPT09 := Lib.hid ((hb9.cell (p := ⟨b1, 4, none⟩) hlt1).trans HPT08.out)
      have HPT19 := Lib.hid ((hb9.cell (p := ⟨b1, 5, none⟩) hlt1).trans HPT18.out)
      obtain ⟨Ax, cx, hxv, _⟩ := own_form (show w9.ownsRow _ _ _ _ _ _ from HPS9.out.xr)
      obtain ⟨nx, hnx⟩ : ∃ nx, nx = px.length := ⟨_, rfl⟩
      have hnx2 : nx ≤ 10001 := by
        have h1 := congrArg List.length HMx.out
        rw [List.length_map, List.length_map] at h1
        omega
      rw [← hnx] at hxv
      have HNX := Lib.hid hnx
      have HXR := Lib.hid (show w9.ownsRow B0 86 8 (.slice Ax nx cx) nx (px.flatMap ipCells) by
        have := HPS9.out.xr
        unfold RowIn at this
        rw [hxv, ← hnx] at this
        exact this)
      have HXE := Lib.hid hxv
      have hbw9 := HPS9.out.bw
      clear hb9 hnx hpv HPL HPS8 HIP8 HPT08 HPT18 HBR8
      subst hxv
      go_upto_region 20 with (at_builtin; go_must (refine wpList_app _ rfl (.tmp 85) (.tmp 89) _ rfl B0 86 ie _ 8 112 Tryd.underlying28 Ii.out Iz.out Iz1.out Iz2.out rfl (by decide) (.slice Ax nx cx) nx (px.flatMap ipCells) (by rfl) HXR.out Ap np cp (ps.flatMap ipCells) (by rfl) (by rw [HNP.out]; exact ips_len ps) HSR.out (ips_one HIP9.out) (by unfold maxLen; omega) (by omega) hbw9 ?_); intro xn w10 hrow hg hat)
      have HPS10 := Lib.hid (HPS9.out.app HIP9.out (by rw [← HNX.out, ← HNP.out]; exact hrow) hg hat)
      have hkg : Kp (fun i => (Value.slice Ax nx cx).ownBlock = some i) w9 w10 := (Kp.refl _ _).grown hg (fun k hk _ => hk)
      have hxlt := HPS9.out.xr.lt
      have HBR10 := Lib.hid (show Below w.heap.size w w10 from Kp.from_elder HBR9.out hkg (fun i hi e => by have := (hxlt i e).1; omega))
      have HPT010 := Lib.hid ((hkg.cell (p := ⟨b1, 4, none⟩) (by show b1 < _; omega) (fun e => by have := (hxlt _ e).1; have e' : B0 ≤ b1 := this; omega)).trans HPT09.out)
      have HPT110 := Lib.hid ((hkg.cell (p := ⟨b1, 5, none⟩) (by show b1 < _; omega) (fun e => by have := (hxlt _ e).1; have e' : B0 ≤ b1 := this; omega)).trans HPT19.out)
      clear hrow hg hat hkg hxlt HPS9 HIP9 HBR9 HPT09 HPT19 HXR
      have HX := Lib.hid (show (px ++ ps).map (·.1) = pw.map (·.1) by
        rw [List.map_append, HMx.out, HG4.out, HW0.out, LRa.out.tot]; simp only [List.map_append]; rfl)
      have HPSW := Lib.hid HPS10.out.swap
      have hx3 : px.length + np ≤ 20002 := by rw [← HNX.out]; omega
      have HNPX := HNP
      have HNXX := HNX
      obtain ⟨qx, hqx⟩ : ∃ qx, qx = px ++ ps := ⟨_, rfl⟩
      rw [← hqx] at HX HPSW
      have HQXL := Lib.hid (show qx.length ≤ 20002 by rw [hqx, List.length_append, ← HNP.out]; exact hx3)
      have HPT0r := HPT010
      have HPT1r := HPT110
      have HBR := HBR10
      clear HPS HPS10 HPT010 HPT110 HBR10 hqx hx3 HMx HNP HNX HG4 HNPX HNXX hcn hnp2 hnx2 hlt1 hbw9 hs8
      have HRD := Lib.hid (read_lane b1 1 G B0 (by omega) w10 w Ab nb cb rb hbb vG sG HPT1r.out HPSW.out.lt.1 HPSW.out.bw HPSW.out.fF LRb.out.at_ (by omega) HBR.out HLY.out (by omega) (by omega) LRb.out.cm)
      have hcn := LRb.out.count
      go_wp2_with fail
      refine HRD.out.mono ?_
      rintro e w18 ⟨rv, v', ps, rfl, g1, g2, g3, g4, g5, g6, g7⟩
      obtain ⟨Ar, cr, hrv, _⟩ := own_form (show w18.ownsRow _ _ _ _ _ _ from g3)
      subst hrv
      obtain ⟨hps8, hip8⟩ := HPSW.out.read g1 g2 g7 g5
      obtain ⟨np, hnp⟩ : ∃ np, np = ps.length := ⟨_, rfl⟩
      have hnp2 : np ≤ 1000010000 ∧ np ≤ 10001 := by
        have h1 := congrArg List.length g4
        rw [List.length_map, List.length_map] at h1
        have h2 := LRb.out.count
        omega
      have HPL := Lib.hid (plain_any _ ps _ Ar np cr w18 (by rw [hnp]; exact g3) g5 hnp2.1)
      rw [← hnp]
      have HG4 := Lib.hid g4
      have HBR8 := Lib.hid (show Below w.heap.size w w18 from Kp.from_elder HBR.out g7 (fun i hi e => e.elim (fun e => by omega) (fun e => by have := (HPSW.out.fF.lt.2 i e).1; omega)))
      have HPT08 := Lib.hid ((g7.cell (p := ⟨b1, 4, none⟩) (by have := HPSW.out.bw; show b1 < _; omega) (fun e => e.elim (fun e => by have e' : b1 = G := e; omega) (fun e => by have := (HPSW.out.fF.lt.2 _ e).1; have e' : B0 ≤ b1 := this; omega))).trans HPT0r.out)
      have HPT18 := Lib.hid ((g7.cell (p := ⟨b1, 5, none⟩) (by have := HPSW.out.bw; show b1 < _; omega) (fun e => e.elim (fun e => by have e' : b1 = G := e; omega) (fun e => by have := (HPSW.out.fF.lt.2 _ e).1; have e' : B0 ≤ b1 := this; omega))).trans HPT1r.out)
      have HPS8 := Lib.hid hps8
      have HIP8 := Lib.hid hip8
      have hs8 := g7.size
      have HNP := Lib.hid hnp
      clear g1 g2 g3 g4 g5 g6 g7 hps8 hip8 HRD hnp
      go_wp2_with fail
      refine HPL.out.mono ?_
      rintro e w19 ⟨pv, rfl, hpv, hb9⟩
      obtain ⟨Ap, cp, hpvs, _⟩ := own_form (show w19.ownsRow _ _ _ _ _ _ from hpv)
      subst hpvs
      rw [← HNP.out]
      have HPS9 := Lib.hid (HPS8.out.low hb9)
      have HIP9 := Lib.hid (show ∀ p ∈ ps, InPers (TT B0 v' _ _ _) w19 p from fun p hp => (HIP8.out p hp).step (S := fun _ => False) (Kp.of_below hb9) (fun _ _ h => h.elim) (fun _ _ h => h))
      have HSR := Lib.hid hpv.src
      have HPV := Lib.hid hpv
      have HBR9 := Lib.hid (HBR8.out.trans (hb9.mono HBR8.out.size))
      have hlt1 : b1 < w18.heap.size := by have := HPS8.out.bw; omega
      have HPT09 := Lib.hid ((hb9.cell (p := ⟨b1, 4, none⟩) hlt1).trans HPT08.out)
      have HPT19 := Lib.hid ((hb9.cell (p := ⟨b1, 5, none⟩) hlt1).trans HPT18.out)
      obtain ⟨Ay, cy, hyv, _⟩ := own_form (show w19.ownsRow _ _ _ _ _ _ from HPS9.out.xr)
      obtain ⟨nx, hnx⟩ : ∃ nx, nx = py.length := ⟨_, rfl⟩
      have hnx2 : nx ≤ 10001 := by
        have h1 := congrArg List.length HMy.out
        rw [List.length_map, List.length_map] at h1
        omega
      rw [← hnx] at hyv
      have HNX := Lib.hid hnx
      have HXR := Lib.hid (show w19.ownsRow B0 86 8 (.slice Ay nx cy) nx (py.flatMap ipCells) by
        have := HPS9.out.xr
        unfold RowIn at this
        rw [hyv, ← hnx] at this
        exact this)
      have HXE := Lib.hid hyv
      have hbw9 := HPS9.out.bw
      clear hb9 hnx hpv HPL HPS8 HIP8 HPT08 HPT18 HBR8
      subst hyv
      go_upto_region 21 with (at_builtin; go_must (refine wpList_app _ rfl (.tmp 91) (.tmp 95) _ rfl B0 86 ie _ 8 112 Tryd.underlying28 Ii.out Iz.out Iz1.out Iz2.out rfl (by decide) (.slice Ay nx cy) nx (py.flatMap ipCells) (by rfl) HXR.out Ap np cp (ps.flatMap ipCells) (by rfl) (by rw [HNP.out]; exact ips_len ps) HSR.out (ips_one HIP9.out) (by unfold maxLen; omega) (by omega) hbw9 ?_); intro xn w11 hrow hg hat)
      have HPS10 := Lib.hid (HPS9.out.app HIP9.out (by rw [← HNX.out, ← HNP.out]; exact hrow) hg hat)
      have hkg : Kp (fun i => (Value.slice Ay nx cy).ownBlock = some i) w19 w11 := (Kp.refl _ _).grown hg (fun k hk _ => hk)
      have hxlt := HPS9.out.xr.lt
      have HBR10 := Lib.hid (show Below w.heap.size w w11 from Kp.from_elder HBR9.out hkg (fun i hi e => by have := (hxlt i e).1; omega))
      have HPT010 := Lib.hid ((hkg.cell (p := ⟨b1, 4, none⟩) (by show b1 < _; omega) (fun e => by have := (hxlt _ e).1; have e' : B0 ≤ b1 := this; omega)).trans HPT09.out)
      have HPT110 := Lib.hid ((hkg.cell (p := ⟨b1, 5, none⟩) (by show b1 < _; omega) (fun e => by have := (hxlt _ e).1; have e' : B0 ≤ b1 := this; omega)).trans HPT19.out)
      clear hrow hg hat hkg hxlt HPS9 HIP9 HBR9 HPT09 HPT19 HXR
      have HY := Lib.hid (show (py ++ ps).map (·.1) = po.map (·.1) by
        rw [List.map_append, HMy.out, HG4.out, HO0.out, LRb.out.tot]; simp only [List.map_append]; rfl)
      have hy3 : (py ++ ps).length ≤ 20002 := by rw [List.length_append, ← HNX.out, ← HNP.out]; omega
      obtain ⟨qy, hqy⟩ : ∃ qy, qy = py ++ ps := ⟨_, rfl⟩
      rw [← hqy] at HY hy3 HPS10
      obtain ⟨AX, cX, hXv, _⟩ := own_form (show w11.ownsRow _ _ _ _ _ _ from HPS10.out.yr)
      obtain ⟨AY, cY, hYv, _⟩ := own_form (show w11.ownsRow _ _ _ _ _ _ from HPS10.out.xr)
      obtain ⟨nX, hnX⟩ : ∃ nX, nX = qx.length := ⟨_, rfl⟩
      obtain ⟨nY, hnY⟩ : ∃ nY, nY = qy.length := ⟨_, rfl⟩
      rw [← hnX] at hXv
      rw [← hnY] at hYv
      have hq3 := HQXL.out
      have hlX : nX = nw := by
        have h1 := congrArg List.length HX.out
        rw [List.length_map, List.length_map] at h1
        rw [hnX, h1, HNW.out]
      have hlY : nY = no := by
        have h1 := congrArg List.length HY.out
        rw [List.length_map, List.length_map] at h1
        rw [hnY, h1, HNO.out]
      rw [hlX] at hXv
      rw [hlY] at hYv
      have HS1 := Lib.hid (same_yes _ _ qx pw B0 B0 AX Aw nw cX cw w11 (by have := HPS10.out.yr; rw [hXv] at this; exact this) (by have := HPS10.out.or_; exact this) HPS10.out.ay HPS10.out.ao HX.out (by rw [← hlX]; omega))
      have HS2 := Lib.hid (fun W (hW : Below w11.heap.size w11 W) => same_yes _ _ qy po B0 B0 AY Ao no cY co W (by have := (HPS10.out.low hW).xr; rw [hYv] at this; exact this) (by have := (HPS10.out.low hW).wr_; exact this) (HPS10.out.low hW).ax (HPS10.out.low hW).aw HY.out (by rw [← hlY]; omega))
      have HXE := Lib.hid hXv
      have HYE := Lib.hid hYv
      clear hnX hnY hlX hlY hqy hy3 hq3 HPS10 HNW HNO
      subst hXv
      subst hYv
      go_wp2_with fail
      refine HS1.out.mono ?_
      rintro e w12 ⟨rfl, hb12⟩
      have HB12 := Lib.hid hb12
      clear hb12 HS1
      go_wp2_with fail
      refine (HS2.out w12 HB12.out).mono ?_
      rintro e w13 ⟨rfl, hb13⟩
      have HB13 := Lib.hid (HB12.out.trans (hb13.mono HB12.out.size))
      clear hb13 HS2
      go_wp2_with fail
      refine (read_no b1 2 Aa na ca w13 (.inr (by omega))).mono ?_
      rintro e w14 ⟨rfl, rfl⟩
      go_wp2_with fail
      refine (read_no b1 (-1) Aa na ca _ (.inl (by omega))).mono ?_
      rintro e w15 ⟨rfl, rfl⟩
      go_wp2_with fail
      go_ret
      exact ⟨rfl, HBR10.out.trans (HB13.out.mono HBR10.out.size)⟩
end Go.Proofs.YtpacgblddeoheaaDoor.P22
