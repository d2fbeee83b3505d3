/- A field that isn't used is refused. -/
import Derived.Test.YtanjlgkbjcienaaMsgAlive
namespace Go.Proofs.Ytanjlgkbjcienaa.M8
open Go.RowKit Go.Deep T7
set_option linter.unusedVariables false
set_option linter.unusedSimpArgs false
set_option maxRecDepth 100000
attribute [local go_sem ↓] Go.wp_at_zero Go.wp_at_succ

def hash1 : List UInt8 := [1, 0, 0, 0, 0, 0, 0, 0, 0, 0, 0, 0, 0, 0, 0, 0, 0, 0, 0, 0, 0, 0, 0, 0, 0, 0, 0, 0, 0, 0, 0, 0]
theorem others_ids {m : Msgs.Msg} (hk : m.kind = 1 ∨ m.kind = 3 ∨ m.kind = 4) : Msgs.put ⟨m.kind, m.n, m.code, [hash1], m.tx⟩ = ([], [], 2) := by
  have h : Msgs.errOf ⟨m.kind, m.n, m.code, [hash1], m.tx⟩ = 2 := by
    have hm : Msgs.misfit ⟨m.kind, m.n, m.code, [hash1], m.tx⟩ = true := by
      unfold Msgs.misfit
      rcases hk with h | h | h <;> simp [h, Msgs.shp, Msgs.shN]
    unfold Msgs.errOf
    rw [if_pos hm]
    split <;> rfl
  unfold Msgs.put
  rw [if_pos (by rw [h]; decide), h]
theorem others_n {m : Msgs.Msg} (hk : Msgs.known m.kind = true) (h1 : m.kind ≠ 1) (h3 : m.kind ≠ 3) (h4 : m.kind ≠ 4) : Msgs.put ⟨m.kind, 1, m.code, m.ids, m.tx⟩ = ([], [], 2) := by
  have h : Msgs.errOf ⟨m.kind, 1, m.code, m.ids, m.tx⟩ = 2 := by
    have hm : Msgs.misfit ⟨m.kind, 1, m.code, m.ids, m.tx⟩ = true := by
      unfold Msgs.misfit
      rcases Msgs.known_cases hk with h | h | h | h | h | h | h | h | h | h | h <;> first | exact absurd h h1 | exact absurd h h3 | exact absurd h h4 | simp [h, Msgs.shp, Msgs.shN]
    unfold Msgs.errOf
    rw [if_pos hm]
    split <;> rfl
  unfold Msgs.put
  rw [if_pos (by rw [h]; decide), h]
theorem bk_hash1 {w : World} {g t : Nat} (h : Bk w g t (bytesArr hash1)) : HashesAt w w.heap.size (some ⟨g, 0, none⟩) [hash1] := by
  intro i hi
  obtain rfl : i = 0 := by simpa using hi
  refine ⟨g, 0, hash1.map byteV, rfl, h.lt, ⟨rfl, rfl⟩, fun j hj => ?_⟩
  rw [h.cell]
  simp only [bytesArr, List.getElem?_toArray, Nat.zero_mul, Nat.zero_add, Nat.add_zero]
  rw [List.getElem?_eq_getElem hj]
set_option maxHeartbeats 8000000 in
theorem msgOthers_walk (w : World) (m : Msgs.Msg) (A : Option Addr) (c : Nat) (A1 : Option Addr) (c1 : Nat) (A2 : Option Addr) (c2 : Nat) (h : MsgAt w w.heap.size m A c A1 c1 A2 c2) (k2 : Int) (hkw : (Lit.int .i64 k2).wf = true) :
    Calls Try.prog 6 #[msgV m A c A1 c1 A2 c2, .int .i64 k2] w fun e w' => e = .returned (.bool true) ∧ Below w.heap.size w w' := by
  obtain ⟨hk0, hk1'⟩ := wf_i64 hkw
  have HPI := Lib.hid (fun W (hb : Below w.heap.size w W) g (hbk : Bk W g 45 (bytesArr hash1)) => mput_any ⟨m.kind, m.n, m.code, [hash1], m.tx⟩ (some ⟨g, 0, none⟩) A1 A2 1 c1 c2 W.heap.size W ⟨h.lo, h.hi, h.n, h.code, Nat.le_refl _, by simp [maxLen], bk_hash1 hbk, (h.tx.below hb).mono hb.size⟩ (Nat.le_refl _))
  have HPN := Lib.hid (fun W (hb : Below w.heap.size w W) => mput_any ⟨m.kind, 1, m.code, m.ids, m.tx⟩ A A1 A2 c c1 c2 w.heap.size W ⟨h.lo, h.hi, by show 1 < _; omega, h.code, h.ic, h.im, At.below h.ids hb, h.tx.below hb⟩ hb.size)
  have HPK := Lib.hid (fun W (hb : Below w.heap.size w W) => mput_any ⟨k2, m.n, m.code, m.ids, m.tx⟩ A A1 A2 c c1 c2 w.heap.size W ⟨hk0, hk1', h.n, h.code, h.ic, h.im, At.below h.ids hb, h.tx.below hb⟩ hb.size)
  clear hkw
  obtain ⟨w1, ms, hms, hv, hms7, hw1, hb1, hz1, hk1⟩ := msg_box w m A A1 A2 c c1 c2
  have HB1 := Lib.hid hb1
  have HZ1 := Lib.hid hz1
  have HK1 := Lib.hid hk1
  have HM7 := Lib.hid hms7
  have HMO := Lib.hid (msgV_cells hv).2
  have HMS := Lib.hid hms
  have HV := Lib.hid hv
  have HT := Lib.hid h
  have HGR := Lib.hid (fun W (hb : Below w.heap.size w W) => great_any m A A1 A2 c c1 c2 _ W (h.below hb) hb.size)
  have HPU := Lib.hid (fun W (hb : Below w.heap.size w W) => mput_any m A A1 A2 c c1 c2 _ W (h.below hb) hb.size)
  have HOK := Lib.hid h.ok
  rw [hv] at HGR HPU ⊢
  have HPQ := Lib.hid (fun h => Msgs.put_known (m := m) (c := (Msgs.put m).1) (b := (Msgs.put m).2.1) h)
  have HPK2 := Lib.hid (fun h => Msgs.put_known (m := ⟨k2, m.n, m.code, m.ids, m.tx⟩) (c := (Msgs.put ⟨k2, m.n, m.code, m.ids, m.tx⟩).1) (b := (Msgs.put ⟨k2, m.n, m.code, m.ids, m.tx⟩).2.1) h)
  have HUN := Lib.hid (show Msgs.known m.kind = false → Msgs.put m = ([], [], 2) from fun hk => by
    have h0 : Msgs.errOf m = 2 := by unfold Msgs.errOf; rw [if_pos hk]
    unfold Msgs.put; rw [if_pos (by rw [h0]; decide), h0])
  obtain ⟨q, hq⟩ : ∃ q, q = Msgs.put m := ⟨_, rfl⟩
  obtain ⟨p, hp⟩ : ∃ p, p = Msgs.put ⟨k2, m.n, m.code, m.ids, m.tx⟩ := ⟨_, rfl⟩
  rw [← hq] at HPU HPQ HUN
  rw [← hp] at HPK HPK2
  clear hq hp
  clear hb1 hz1 hk1 hms7 hms hv h
  go_enter Try.func6, Try.ntmps6
  go_upto_region 1 with (fail)
  rw [← hw1]
  clear hw1
  go_wp2_with fail
  refine (alive_any w1).mono ?_
  rintro e w2 ⟨rfl, hb2⟩
  have HB2 := Lib.hid (HB1.out.trans (hb2.mono HB1.out.size))
  have HK2 := Lib.hid (HK1.out.below hb2 HK1.out.lt)
  have hz2 : w.heap.size + 1 ≤ w2.heap.size := by rw [← HZ1.out]; exact hb2.size
  clear hb2
  go_wp2_with (refine wpList_load_row rfl 32 (.tmp 2) rfl w.heap.size (by rfl) 32 ms (0, 0) _ HK2.out Try.underlying32 rfl (by rw [HM7.out]; exact size_msg) ?_)
  refine (HGR.out w2 HB2.out).mono ?_
  rintro e w3 ⟨⟨v3, rfl⟩, hb3⟩
  have HB3 := Lib.hid (HB2.out.trans (hb3.mono HB2.out.size))
  have HK3 := Lib.hid (HK2.out.below hb3 (by omega))
  have hz3 : w.heap.size + 1 ≤ w3.heap.size := by have := hb3.size; omega
  clear hb3 HGR
  cases v3 with
  | true =>
    go_wp2_with fail
    go_ret
    exact ⟨rfl, HB3.out⟩
  | false =>
    go_wp2_with (refine wpList_load_row rfl 32 (.tmp 2) rfl w.heap.size (by rfl) 32 ms (0, 0) _ HK3.out Try.underlying32 rfl (by rw [HM7.out]; exact size_msg) ?_)
    refine (HPU.out w3 HB3.out).mono ?_
    rintro e w4 ⟨v4, rfl, ho4, hb4⟩
    obtain ⟨cm, bd, er⟩ := q
    simp only at HPQ HUN ho4 ⊢
    have HB4 := Lib.hid (HB3.out.trans (hb4.mono HB3.out.size))
    have HK4 := Lib.hid (HK3.out.below hb4 (by omega))
    have hz4 : w.heap.size + 1 ≤ w4.heap.size := by have := hb4.size; omega
    have m0 : w4.cell? ⟨w.heap.size, 0, none⟩ = some (.int .i64 m.kind) := by rw [HK4.out.cell, HMS.out]; rfl
    clear hb4 ho4 HPU HB2 HK2 HB3 HK3
    by_cases hkn : Msgs.known m.kind = true
    · have hkk := Msgs.known_iff.1 hkn
      have i1 : ¬ m.kind < 1 := by omega
      have i2 : ¬ (11 : Int) < m.kind := by omega
      by_cases he : er = 0
      · subst he
        have HKA := Lib.hid (HPQ.out rfl)
        clear HPQ HUN hkk
        go_upto_region 11 with (first
          | (refine wpList_load_row rfl 32 (.tmp 2) rfl w.heap.size (by rfl) 32 ms (0, 0) _ HK4.out Try.underlying32 rfl (by rw [HM7.out]; exact size_msg) ?_)
          | (refine wpList_store_row rfl 32 (.tmp 8) _ rfl w4.heap.size ms (by rfl) (by rfl) 32 _ (Bk.new _ _ _) (by rw [HM7.out]; exact size_msg) (by rw [HM7.out]; rfl) HMO.out ?_))
        rw [World.setRow_alloc_new]
        obtain ⟨w5, hw5⟩ : ∃ w5, w5 = w4.alloc (.cells ms 32) := ⟨_, rfl⟩
        obtain ⟨gn, hgn⟩ : ∃ gn, gn = w4.heap.size := ⟨_, rfl⟩
        have HN5 := Lib.hid (show Bk w5 gn 32 ms by rw [hw5, hgn]; exact Bk.new _ _ _)
        have HK5 := Lib.hid (show Bk w5 w.heap.size 32 ms by rw [hw5]; exact HK4.out.alloc _)
        have HB5 := Lib.hid (show Below w.heap.size w w5 by rw [hw5]; exact HB4.out.alloc HB4.out.size _)
        have hz5 : gn + 1 ≤ w5.heap.size := by rw [hw5, hgn]; simp
        have hgn' : w.heap.size + 1 ≤ gn := by omega
        rw [← hw5, ← hgn]
        have n0 : w5.cell? ⟨w.heap.size, 0, none⟩ = some (.int .i64 m.kind) := by rw [HK5.out.cell, HMS.out]; rfl
        have fn1 := HN5.out.frozen 1
        have fn3 := HN5.out.frozen 3
        have n1 : w5.cell? ⟨gn, 1, none⟩ = some (.int .u64 (m.n : Int)) := by rw [HN5.out.cell, HMS.out]; rfl
        have n3 : w5.cell? ⟨gn, 3, none⟩ = some (.slice A m.ids.length c) := by rw [HN5.out.cell, HMS.out]; rfl
        clear hw5 hgn HK4 HB4 m0 hz4 i1 i2
        by_cases hk134 : m.kind = 1 ∨ m.kind = 3 ∨ m.kind = 4
        case' pos =>
          have HPX := Lib.hid (others_ids hk134)
          have HPI2 := Lib.hid (fun W hb g hbk => (others_ids hk134) ▸ HPI.out W hb g hbk)
          rcases hk134 with h1 | h1 | h1
        case' neg =>
          have HPN2 := Lib.hid (fun W hb => (others_n hkn (fun h => hk134 (.inl h)) (fun h => hk134 (.inr (.inl h))) (fun h => hk134 (.inr (.inr h)))) ▸ HPN.out W hb)
          have t1 : (m.kind == 1) = false := by rw [beq_eq_false_iff_ne]; exact fun h => hk134 (.inl h)
          have t3 : (m.kind == 3) = false := by rw [beq_eq_false_iff_ne]; exact fun h => hk134 (.inr (.inl h))
          have t4 : (m.kind == 4) = false := by rw [beq_eq_false_iff_ne]; exact fun h => hk134 (.inr (.inr h))
          clear hk134
          go_upto_region 17 with (fail)
          obtain ⟨w7, hw7⟩ : ∃ w7, w7 = w5.setCell ⟨gn, 1, none⟩ (.int .u64 1) := ⟨_, rfl⟩
          obtain ⟨mx, hmx⟩ : ∃ mx, mx = ms.setIfInBounds 1 (.int .u64 1) := ⟨_, rfl⟩
          have k57 : Kp (fun i => i = gn) w5 w7 := by rw [hw7]; exact kp_cell1 _ _ _ _
          have HN7 := Lib.hid (show Bk w7 gn 32 mx by rw [hw7, hmx]; exact HN5.out.set 1 _)
          have HMX := Lib.hid (show msgV ⟨m.kind, 1, m.code, m.ids, m.tx⟩ A c A1 c1 A2 c2 = .agg mx by rw [hmx, HMS.out]; rfl)
          have HX7 := Lib.hid (show mx.size = 7 by rw [hmx, Array.size_setIfInBounds]; exact HM7.out)
          have HK7 := Lib.hid (HK5.out.kp k57 (by omega))
          have HB7 := Lib.hid (Kp.from_elder HB5.out k57 (fun i hi e => by omega))
          have hz7 : gn + 1 ≤ w7.heap.size := by have := k57.size; omega
          have HPZ := Lib.hid (HPN2.out w7 HB7.out)
          rw [HMX.out] at HPZ
          rw [← hw7]
          clear hw7 hmx k57 n0 n1 n3 fn1 fn3 t1 t3 t4 HPN2
        case' pos.inl =>
          have t1 : (m.kind == 1) = true := by rw [h1]; rfl
          clear h1
        case' pos.inr.inl =>
          have t1 : (m.kind == 1) = false := by rw [h1]; rfl
          have t3 : (m.kind == 3) = true := by rw [h1]; rfl
          clear h1
        case' pos.inr.inr =>
          have t1 : (m.kind == 1) = false := by rw [h1]; rfl
          have t3 : (m.kind == 3) = false := by rw [h1]; rfl
          have t4 : (m.kind == 4) = true := by rw [h1]; rfl
          clear h1
        case' pos.inl => 
          have fz := fun o => (HN5.out.alloc o).frozen 3
          have cz : ∀ o, (w5.alloc o).cell? ⟨gn, 3, none⟩ = some (.slice A m.ids.length c) := fun o => by rw [(HN5.out.alloc o).cell, HMS.out]; rfl
          go_upto_region 17 with (fail)
          clear fz cz
          obtain ⟨w6, hw6⟩ : ∃ w6, w6 = w5.alloc (.cells (bytesArr hash1) 45) := ⟨_, rfl⟩
          obtain ⟨gi, hgi⟩ : ∃ gi, gi = w5.heap.size := ⟨_, rfl⟩
          obtain ⟨w7, hw7⟩ : ∃ w7, w7 = w6.setCell ⟨gn, 3, none⟩ (.slice (some ⟨gi, 0, none⟩) 1 1) := ⟨_, rfl⟩
          have hw7' : w7 = (w5.alloc (.cells (bytesArr hash1) 45)).setCell ⟨gn, 3, none⟩ (.slice (some ⟨w5.heap.size, 0, none⟩) 1 1) := by rw [hw7, hw6, hgi]
          obtain ⟨mx, hmx⟩ : ∃ mx, mx = ms.setIfInBounds 3 (.slice (some ⟨gi, 0, none⟩) 1 1) := ⟨_, rfl⟩
          have k67 : Kp (fun i => i = gn) w6 w7 := by rw [hw7]; exact kp_cell1 _ _ _ _
          have HN6 : Bk w6 gn 32 ms := by rw [hw6]; exact HN5.out.alloc _
          have HN7 := Lib.hid (show Bk w7 gn 32 mx by rw [hw7, hmx]; exact HN6.set 3 _)
          have HMX := Lib.hid (show msgV ⟨m.kind, m.n, m.code, [hash1], m.tx⟩ (some ⟨gi, 0, none⟩) 1 A1 c1 A2 c2 = .agg mx by rw [hmx, HMS.out]; rfl)
          have HX7 := Lib.hid (show mx.size = 7 by rw [hmx, Array.size_setIfInBounds]; exact HM7.out)
          have HH7 : Bk w7 gi 45 (bytesArr hash1) := (show Bk w6 gi 45 (bytesArr hash1) by rw [hw6, hgi]; exact Bk.new _ _ _).kp k67 (by omega)
          have HK7 := Lib.hid ((show Bk w6 w.heap.size 32 ms by rw [hw6]; exact HK5.out.alloc _).kp k67 (by omega))
          have HB7 := Lib.hid (Kp.from_elder (show Below w.heap.size w w6 by rw [hw6]; exact HB5.out.alloc HB5.out.size _) k67 (fun i hi e => by omega))
          have hz7 : gn + 1 ≤ w7.heap.size := by have := k67.size; have : w6.heap.size = w5.heap.size + 1 := by rw [hw6]; simp
                                                 omega
          have HPZ := Lib.hid (HPI2.out w7 HB7.out gi HH7)
          rw [HMX.out] at HPZ
          have hgo : (w5.alloc (.cells (bytesArr hash1) 45)).setCell ⟨gn, 3, none⟩ (.slice (some ⟨w5.heap.size, 0, none⟩) 1 1) = w7 := hw7'.symm
          rw [show bytesArr hash1 = #[.int .u8 1, .int .u8 0, .int .u8 0, .int .u8 0, .int .u8 0, .int .u8 0, .int .u8 0, .int .u8 0, .int .u8 0, .int .u8 0, .int .u8 0, .int .u8 0, .int .u8 0, .int .u8 0, .int .u8 0, .int .u8 0, .int .u8 0, .int .u8 0, .int .u8 0, .int .u8 0, .int .u8 0, .int .u8 0, .int .u8 0, .int .u8 0, .int .u8 0, .int .u8 0, .int .u8 0, .int .u8 0, .int .u8 0, .int .u8 0, .int .u8 0, .int .u8 0] from rfl] at hgo
          rw [hgo]
          clear hgo hw7' hw6 hw7 hgi hmx k67 HN6 HH7 n0 n1 n3 fn1 fn3 HPI2
          try clear t1
          try clear t3
          try clear t4

        case' pos.inr.inl => 
          have fz := fun o => (HN5.out.alloc o).frozen 3
          have cz : ∀ o, (w5.alloc o).cell? ⟨gn, 3, none⟩ = some (.slice A m.ids.length c) := fun o => by rw [(HN5.out.alloc o).cell, HMS.out]; rfl
          go_upto_region 17 with (fail)
          clear fz cz
          obtain ⟨w6, hw6⟩ : ∃ w6, w6 = w5.alloc (.cells (bytesArr hash1) 45) := ⟨_, rfl⟩
          obtain ⟨gi, hgi⟩ : ∃ gi, gi = w5.heap.size := ⟨_, rfl⟩
          obtain ⟨w7, hw7⟩ : ∃ w7, w7 = w6.setCell ⟨gn, 3, none⟩ (.slice (some ⟨gi, 0, none⟩) 1 1) := ⟨_, rfl⟩
          have hw7' : w7 = (w5.alloc (.cells (bytesArr hash1) 45)).setCell ⟨gn, 3, none⟩ (.slice (some ⟨w5.heap.size, 0, none⟩) 1 1) := by rw [hw7, hw6, hgi]
          obtain ⟨mx, hmx⟩ : ∃ mx, mx = ms.setIfInBounds 3 (.slice (some ⟨gi, 0, none⟩) 1 1) := ⟨_, rfl⟩
          have k67 : Kp (fun i => i = gn) w6 w7 := by rw [hw7]; exact kp_cell1 _ _ _ _
          have HN6 : Bk w6 gn 32 ms := by rw [hw6]; exact HN5.out.alloc _
          have HN7 := Lib.hid (show Bk w7 gn 32 mx by rw [hw7, hmx]; exact HN6.set 3 _)
          have HMX := Lib.hid (show msgV ⟨m.kind, m.n, m.code, [hash1], m.tx⟩ (some ⟨gi, 0, none⟩) 1 A1 c1 A2 c2 = .agg mx by rw [hmx, HMS.out]; rfl)
          have HX7 := Lib.hid (show mx.size = 7 by rw [hmx, Array.size_setIfInBounds]; exact HM7.out)
          have HH7 : Bk w7 gi 45 (bytesArr hash1) := (show Bk w6 gi 45 (bytesArr hash1) by rw [hw6, hgi]; exact Bk.new _ _ _).kp k67 (by omega)
          have HK7 := Lib.hid ((show Bk w6 w.heap.size 32 ms by rw [hw6]; exact HK5.out.alloc _).kp k67 (by omega))
          have HB7 := Lib.hid (Kp.from_elder (show Below w.heap.size w w6 by rw [hw6]; exact HB5.out.alloc HB5.out.size _) k67 (fun i hi e => by omega))
          have hz7 : gn + 1 ≤ w7.heap.size := by have := k67.size; have : w6.heap.size = w5.heap.size + 1 := by rw [hw6]; simp
                                                 omega
          have HPZ := Lib.hid (HPI2.out w7 HB7.out gi HH7)
          rw [HMX.out] at HPZ
          have hgo : (w5.alloc (.cells (bytesArr hash1) 45)).setCell ⟨gn, 3, none⟩ (.slice (some ⟨w5.heap.size, 0, none⟩) 1 1) = w7 := hw7'.symm
          rw [show bytesArr hash1 = #[.int .u8 1, .int .u8 0, .int .u8 0, .int .u8 0, .int .u8 0, .int .u8 0, .int .u8 0, .int .u8 0, .int .u8 0, .int .u8 0, .int .u8 0, .int .u8 0, .int .u8 0, .int .u8 0, .int .u8 0, .int .u8 0, .int .u8 0, .int .u8 0, .int .u8 0, .int .u8 0, .int .u8 0, .int .u8 0, .int .u8 0, .int .u8 0, .int .u8 0, .int .u8 0, .int .u8 0, .int .u8 0, .int .u8 0, .int .u8 0, .int .u8 0, .int .u8 0] from rfl] at hgo
          rw [hgo]
          clear hgo hw7' hw6 hw7 hgi hmx k67 HN6 HH7 n0 n1 n3 fn1 fn3 HPI2
          try clear t1
          try clear t3
          try clear t4

        case' pos.inr.inr => 
          have fz := fun o => (HN5.out.alloc o).frozen 3
          have cz : ∀ o, (w5.alloc o).cell? ⟨gn, 3, none⟩ = some (.slice A m.ids.length c) := fun o => by rw [(HN5.out.alloc o).cell, HMS.out]; rfl
          go_upto_region 17 with (fail)
          clear fz cz
          obtain ⟨w6, hw6⟩ : ∃ w6, w6 = w5.alloc (.cells (bytesArr hash1) 45) := ⟨_, rfl⟩
          obtain ⟨gi, hgi⟩ : ∃ gi, gi = w5.heap.size := ⟨_, rfl⟩
          obtain ⟨w7, hw7⟩ : ∃ w7, w7 = w6.setCell ⟨gn, 3, none⟩ (.slice (some ⟨gi, 0, none⟩) 1 1) := ⟨_, rfl⟩
          have hw7' : w7 = (w5.alloc (.cells (bytesArr hash1) 45)).setCell ⟨gn, 3, none⟩ (.slice (some ⟨w5.heap.size, 0, none⟩) 1 1) := by rw [hw7, hw6, hgi]
          obtain ⟨mx, hmx⟩ : ∃ mx, mx = ms.setIfInBounds 3 (.slice (some ⟨gi, 0, none⟩) 1 1) := ⟨_, rfl⟩
          have k67 : Kp (fun i => i = gn) w6 w7 := by rw [hw7]; exact kp_cell1 _ _ _ _
          have HN6 : Bk w6 gn 32 ms := by rw [hw6]; exact HN5.out.alloc _
          have HN7 := Lib.hid (show Bk w7 gn 32 mx by rw [hw7, hmx]; exact HN6.set 3 _)
          have HMX := Lib.hid (show msgV ⟨m.kind, m.n, m.code, [hash1], m.tx⟩ (some ⟨gi, 0, none⟩) 1 A1 c1 A2 c2 = .agg mx by rw [hmx, HMS.out]; rfl)
          have HX7 := Lib.hid (show mx.size = 7 by rw [hmx, Array.size_setIfInBounds]; exact HM7.out)
          have HH7 : Bk w7 gi 45 (bytesArr hash1) := (show Bk w6 gi 45 (bytesArr hash1) by rw [hw6, hgi]; exact Bk.new _ _ _).kp k67 (by omega)
          have HK7 := Lib.hid ((show Bk w6 w.heap.size 32 ms by rw [hw6]; exact HK5.out.alloc _).kp k67 (by omega))
          have HB7 := Lib.hid (Kp.from_elder (show Below w.heap.size w w6 by rw [hw6]; exact HB5.out.alloc HB5.out.size _) k67 (fun i hi e => by omega))
          have hz7 : gn + 1 ≤ w7.heap.size := by have := k67.size; have : w6.heap.size = w5.heap.size + 1 := by rw [hw6]; simp
                                                 omega
          have HPZ := Lib.hid (HPI2.out w7 HB7.out gi HH7)
          rw [HMX.out] at HPZ
          have hgo : (w5.alloc (.cells (bytesArr hash1) 45)).setCell ⟨gn, 3, none⟩ (.slice (some ⟨w5.heap.size, 0, none⟩) 1 1) = w7 := hw7'.symm
          rw [show bytesArr hash1 = #[.int .u8 1, .int .u8 0, .int .u8 0, .int .u8 0, .int .u8 0, .int .u8 0, .int .u8 0, .int .u8 0, .int .u8 0, .int .u8 0, .int .u8 0, .int .u8 0, .int .u8 0, .int .u8 0, .int .u8 0, .int .u8 0, .int .u8 0, .int .u8 0, .int .u8 0, .int .u8 0, .int .u8 0, .int .u8 0, .int .u8 0, .int .u8 0, .int .u8 0, .int .u8 0, .int .u8 0, .int .u8 0, .int .u8 0, .int .u8 0, .int .u8 0, .int .u8 0] from rfl] at hgo
          rw [hgo]
          clear hgo hw7' hw6 hw7 hgi hmx k67 HN6 HH7 n0 n1 n3 fn1 fn3 HPI2
          try clear t1
          try clear t3
          try clear t4

        all_goals
          clear HPI HPN
          go_wp2_with (refine wpList_load_row rfl 32 (.tmp 8) rfl gn (by rfl) 32 mx (0, 0) _ HN7.out Try.underlying32 rfl (by rw [HX7.out]; exact size_msg) ?_)
          refine HPZ.out.mono ?_
          rintro e w8 ⟨v8, rfl, ho8, hb8⟩
          have HN8 := Lib.hid (HN7.out.below hb8 (by omega))
          have HK8 := Lib.hid (HK7.out.below hb8 (by omega))
          have HB8 := Lib.hid (HB7.out.trans (hb8.mono HB7.out.size))
          have hz8 : gn + 1 ≤ w8.heap.size := by have := hb8.size; omega
          clear hb8 ho8 HN7 HK7 HB7 HPZ HMX
          go_upto_region 19 with (first
            | (refine wpList_load_row rfl 32 (.tmp 2) rfl w.heap.size (by rfl) 32 ms (0, 0) _ HK8.out Try.underlying32 rfl (by rw [HM7.out]; exact size_msg) ?_)
            | (refine wpList_store_row rfl 32 (.tmp 8) _ rfl gn ms (by rfl) (by rfl) 32 mx HN8.out (by rw [HM7.out]; exact size_msg) (by rw [HM7.out, HX7.out]) HMO.out ?_))
          obtain ⟨w9, hw9⟩ : ∃ w9, w9 = w8.setRow gn ms := ⟨_, rfl⟩
          have HN9 := Lib.hid (show Bk w9 gn 32 ms by rw [hw9]; exact setRow_heap _ _ _ _ _ _ HN8.out)
          have k89 : Kp (fun i => i = gn) w8 w9 := by rw [hw9]; exact Kp.setRow7 (S := fun i => i = gn) (Kp.refl _ _) (fun _ => rfl) ms
          have HK9 := Lib.hid (HK8.out.kp k89 (by omega))
          have HB9 := Lib.hid (Kp.from_elder HB8.out k89 (fun i hi e => by omega))
          have hz9 : gn + 1 ≤ w9.heap.size := by have := k89.size; omega
          have q0 : w9.cell? ⟨gn, 0, none⟩ = some (.int .i64 m.kind) := by rw [HN9.out.cell, HMS.out]; rfl
          have fq := HN9.out.frozen 0
          rw [← hw9]
          clear hw9 k89 HN8 HK8 HB8
          go_upto_region 20 with (fail)
          obtain ⟨wa, hwa⟩ : ∃ wa, wa = w9.setCell ⟨gn, 0, none⟩ (.int .i64 k2) := ⟨_, rfl⟩
          obtain ⟨my, hmy⟩ : ∃ my, my = ms.setIfInBounds 0 (.int .i64 k2) := ⟨_, rfl⟩
          have k9a : Kp (fun i => i = gn) w9 wa := by rw [hwa]; exact kp_cell1 _ _ _ _
          have HNA := Lib.hid (show Bk wa gn 32 my by rw [hwa, hmy]; exact HN9.out.set 0 _)
          have HY7 := Lib.hid (show my.size = 7 by rw [hmy, Array.size_setIfInBounds]; exact HM7.out)
          have HKA2 := Lib.hid (HK9.out.kp k9a (by omega))
          have HBA := Lib.hid (Kp.from_elder HB9.out k9a (fun i hi e => by omega))
          have hza : gn + 1 ≤ wa.heap.size := by have := k9a.size; omega
          have HPZ := Lib.hid (HPK.out wa HBA.out)
          rw [show msgV ⟨k2, m.n, m.code, m.ids, m.tx⟩ A c A1 c1 A2 c2 = .agg my by rw [hmy, HMS.out]; rfl] at HPZ
          rw [← hwa]
          clear hwa hmy k9a HN9 HK9 HB9 q0 fq HPK
          go_wp2_with (refine wpList_load_row rfl 32 (.tmp 8) rfl gn (by rfl) 32 my (0, 0) _ HNA.out Try.underlying32 rfl (by rw [HY7.out]; exact size_msg) ?_)
          refine HPZ.out.mono ?_
          rintro e wb ⟨vb, rfl, hob, hbb⟩
          obtain ⟨pc, pb, pe⟩ := p
          simp only at HPK2 ⊢
          have HKB := Lib.hid (HKA2.out.below hbb (by omega))
          have HBB := Lib.hid (HBA.out.trans (hbb.mono HBA.out.size))
          have b0 : wb.cell? ⟨w.heap.size, 0, none⟩ = some (.int .i64 m.kind) := by rw [HKB.out.cell, HMS.out]; rfl
          clear hbb hob HPZ HNA HKA2 HBA
          have hfin : (k2 == m.kind) = true ∨ ((k2 == m.kind) = false ∧ (pe != 0) = true) ∨ ((k2 == m.kind) = false ∧ (pe != 0) = false ∧ (pc == cm) = false) := by
            by_cases h1 : k2 = m.kind
            · exact .inl (by rw [h1]; exact beq_self_eq_true _)
            · have h1' : (k2 == m.kind) = false := by rw [beq_eq_false_iff_ne]; exact h1
              by_cases h2 : pe = 0
              · subst h2
                obtain ⟨ka, _, kc⟩ := HPK2.out rfl
                obtain ⟨ja, _, jc⟩ := HKA.out
                refine .inr (.inr ⟨h1', rfl, ?_⟩)
                rw [beq_eq_false_iff_ne, kc, jc]
                exact fun hcc => h1 (Msgs.cmd_inj ka hkn hcc)
              · exact .inr (.inl ⟨h1', by rw [bne_iff_ne]; exact h2⟩)
          clear HPK2
          rcases hfin with f1 | ⟨f1, f2⟩ | ⟨f1, f2, f3⟩
          · go_wp2_with fail
            go_ret
            exact ⟨rfl, HBB.out⟩
          · go_wp2_with fail
            go_ret
            exact ⟨rfl, HBB.out⟩
          · go_wp2_with fail
            go_ret
            exact ⟨rfl, HBB.out⟩
      · have e1 : (er != 0) = true := by rw [bne_iff_ne]; exact he
        clear he
        go_wp2_with fail
        go_ret
        exact ⟨rfl, HB4.out⟩
    · have hkf : Msgs.known m.kind = false := by simpa using hkn
      have hu := HUN.out hkf
      injection hu with _ hu
      injection hu with _ hu
      subst hu
      have hr : m.kind < 1 ∨ (¬ m.kind < 1 ∧ 11 < m.kind) := by
        have : ¬ (1 ≤ m.kind ∧ m.kind ≤ 11) := fun hh => hkn (Msgs.known_iff.2 hh)
        omega
      clear hkf hkn HUN HPQ
      rcases hr with h1 | ⟨h1, h2⟩
      · go_wp2_with fail
        go_ret
        exact ⟨rfl, HB4.out⟩
      · go_wp2_with fail
        go_ret
        exact ⟨rfl, HB4.out⟩
end Go.Proofs.Ytanjlgkbjcienaa.M8
