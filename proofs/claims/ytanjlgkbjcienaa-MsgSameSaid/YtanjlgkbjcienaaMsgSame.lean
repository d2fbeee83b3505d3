/- A message with a field changed isn't the same. -/
import Derived.Test.YtanjlgkbjcienaaMsgEq
import Derived.BigRegion
import Derived.Deep.DeepCutAuto
namespace Go.Proofs.Ytanjlgkbjcienaa.M8
open Go.RowKit Go.Deep T7
set_option linter.unusedVariables false
set_option linter.unusedSimpArgs false
set_option maxRecDepth 100000
attribute [local go_sem ↓] Go.wp_at_zero Go.wp_at_succ

theorem keep7 {w w' : World} {b : Nat} {v0 v1 v2 v3 v4 v5 v6 : Value} (h0 : w.cell? ⟨b, 0, none⟩ = some v0) (h1 : w.cell? ⟨b, 1, none⟩ = some v1) (h2 : w.cell? ⟨b, 2, none⟩ = some v2) (h3 : w.cell? ⟨b, 3, none⟩ = some v3) (h4 : w.cell? ⟨b, 4, none⟩ = some v4) (h5 : w.cell? ⟨b, 5, none⟩ = some v5) (h6 : w.cell? ⟨b, 6, none⟩ = some v6) (hb : b < w.heap.size) (k : Below w.heap.size w w') :
    w'.cell? ⟨b, 0, none⟩ = some v0 ∧ w'.cell? ⟨b, 1, none⟩ = some v1 ∧ w'.cell? ⟨b, 2, none⟩ = some v2 ∧ w'.cell? ⟨b, 3, none⟩ = some v3 ∧ w'.cell? ⟨b, 4, none⟩ = some v4 ∧ w'.cell? ⟨b, 5, none⟩ = some v5 ∧ w'.cell? ⟨b, 6, none⟩ = some v6 :=
  ⟨(k.cell (p := ⟨b, _, none⟩) hb).trans h0, (k.cell (p := ⟨b, _, none⟩) hb).trans h1, (k.cell (p := ⟨b, _, none⟩) hb).trans h2, (k.cell (p := ⟨b, _, none⟩) hb).trans h3, (k.cell (p := ⟨b, _, none⟩) hb).trans h4, (k.cell (p := ⟨b, _, none⟩) hb).trans h5, (k.cell (p := ⟨b, _, none⟩) hb).trans h6⟩
theorem own_low9 {w w' : World} {B base : Nat} {e : TypeId} {size : Nat} {v : Value} {n : Nat} {xs : List Value} (hg : w.grownBy w' v.ownBlock) (h : w.ownsRow base e size v n xs) (hB : B ≤ base) (hs : B ≤ w.heap.size) : Below B w w' :=
  ⟨hg.os, hg.tape, hg.output, hg.size, fun i hi => hg.block i (by omega) (fun e => by have := (h.lt i e.symm).1; omega)⟩
theorem ne_own {g p : Nat} (h : p < g) : (Value.slice (some ⟨g, 0, none⟩) 0 0).ownBlock ≠ some p := fun hh => by
  have hh : some g = some p := hh
  injection hh with hh
  omega
theorem hash_empty (w : World) : (w.alloc (.cells #[] 45)).ownsRow w.heap.size 45 32 (.slice (some ⟨w.heap.size, 0, none⟩) 0 0) 0 [] :=
  ⟨by simp, .inr ⟨w.heap.size, 0, #[], rfl, Nat.le_refl _, heap_alloc_new w _, Nat.le_refl _, by simp [maxLen], by simp, by simp⟩⟩
theorem _root_.Go.World.ownsRow.kept_far {S : Nat → Prop} {w w' : World} {base : Nat} {e : TypeId} {size : Nat} {v : Value} {n : Nat} {xs : List Value} (h : w.ownsRow base e size v n xs) (hk : Kp S w w') (hn : ∀ g, v.ownBlock = some g → ¬ S g) : w'.ownsRow base e size v n xs := by
  refine ⟨h.1, ?_⟩
  rcases h.2 with h2 | ⟨g, cap, cur, hv, hb, hg, r⟩
  · exact .inl h2
  · have hgl : g < w.heap.size := (Array.getElem?_eq_some_iff.1 hg).1
    exact .inr ⟨g, cap, cur, hv, hb, (hk.block g hgl (hn g (by rw [hv]; rfl))).trans hg, r⟩
/-- four copies in new memory -/
def Four (w1 : World) (L : Array Value) (u5 u6 u7 u8 : Value) (w : World) : Prop :=
  ∃ P5 P6 P7 P8, u5 = .pointer (some ⟨P5, 0, none⟩) ∧ u6 = .pointer (some ⟨P6, 0, none⟩) ∧ u7 = .pointer (some ⟨P7, 0, none⟩) ∧ u8 = .pointer (some ⟨P8, 0, none⟩) ∧
    (Bk w P5 32 L ∧ Bk w P6 32 L ∧ Bk w P7 32 L ∧ Bk w P8 32 L) ∧ (w1.heap.size ≤ P5 ∧ w1.heap.size ≤ P6 ∧ w1.heap.size ≤ P7 ∧ w1.heap.size ≤ P8) ∧ (P5 ≠ P6 ∧ P5 ≠ P7 ∧ P5 ≠ P8 ∧ P6 ≠ P7 ∧ P6 ≠ P8 ∧ P7 ≠ P8) ∧ Below w1.heap.size w1 w
theorem four_of (w1 : World) (L : Array Value) (P5 P6 P7 P8 : Nat) (hl : w1.heap.size ≤ P5 ∧ w1.heap.size ≤ P6 ∧ w1.heap.size ≤ P7 ∧ w1.heap.size ≤ P8) (hu : P5 ≤ w1.heap.size + 3 ∧ P6 ≤ w1.heap.size + 3 ∧ P7 ≤ w1.heap.size + 3 ∧ P8 ≤ w1.heap.size + 3)
    (hd : P5 ≠ P6 ∧ P5 ≠ P7 ∧ P5 ≠ P8 ∧ P6 ≠ P7 ∧ P6 ≠ P8 ∧ P7 ≠ P8) :
    Four w1 L (.pointer (some ⟨P5, 0, none⟩)) (.pointer (some ⟨P6, 0, none⟩)) (.pointer (some ⟨P7, 0, none⟩)) (.pointer (some ⟨P8, 0, none⟩)) ((((w1.alloc (.cells L 32)).alloc (.cells L 32)).alloc (.cells L 32)).alloc (.cells L 32)).drew := by
  have hb : ∀ P, w1.heap.size ≤ P → P ≤ w1.heap.size + 3 → Bk ((((w1.alloc (.cells L 32)).alloc (.cells L 32)).alloc (.cells L 32)).alloc (.cells L 32)).drew P 32 L := by
    intro P h1 h2
    have h : P = w1.heap.size ∨ P = w1.heap.size + 1 ∨ P = w1.heap.size + 2 ∨ P = w1.heap.size + 3 := by omega
    have n1 : ∀ (w : World) (n : Nat), n = w.heap.size → Bk (w.alloc (.cells L 32)) n 32 L := fun w n e => by subst e; exact Bk.new _ _ _
    rcases h with rfl | rfl | rfl | rfl
    · exact ((((Bk.new _ _ _).alloc _).alloc _).alloc _).drew
    · exact (((n1 _ _ (by simp)).alloc _).alloc _).drew
    · exact ((n1 _ _ (by simp)).alloc _).drew
    · exact (n1 _ _ (by simp)).drew
  exact ⟨P5, P6, P7, P8, rfl, rfl, rfl, rfl, ⟨hb _ hl.1 hu.1, hb _ hl.2.1 hu.2.1, hb _ hl.2.2.1 hu.2.2.1, hb _ hl.2.2.2 hu.2.2.2⟩, hl, hd, (((((Below.refl _ _).alloc (Nat.le_refl _) _).alloc (by simp) _).alloc (by simp; omega) _).alloc (by simp; omega) _).drew⟩
theorem wrap_bv (n : Int) : BitVec.ofInt 64 (IntKind.i64.wrap n) = BitVec.ofInt 64 n := by
  apply BitVec.eq_of_toNat_eq
  rw [BitVec.toNat_ofInt, BitVec.toNat_ofInt]
  congr 1
  simp [IntKind.wrap, IntKind.bits, IntKind.signed]
  split <;> omega
theorem xor_ne (k : Int) : bits .xor .i64 k 1 ≠ k := by
  intro h
  have h1 : BitVec.ofInt 64 (bits .xor .i64 k 1) = BitVec.ofInt 64 k := by rw [h]
  have h2 : bits .xor .i64 k 1 = IntKind.i64.wrap ((BitVec.ofInt 64 k ^^^ BitVec.ofInt 64 1).toNat : Int) := rfl
  rw [h2, wrap_bv, BitVec.ofInt_natCast, BitVec.ofNat_toNat, BitVec.setWidth_eq] at h1
  have h3 : BitVec.ofInt 64 k ^^^ (BitVec.ofInt 64 k ^^^ BitVec.ofInt 64 1) = BitVec.ofInt 64 k ^^^ BitVec.ofInt 64 k := by rw [h1]
  rw [← BitVec.xor_assoc, BitVec.xor_self, BitVec.zero_xor] at h3
  exact absurd h3 (by decide)
theorem flatMap_len8 {α : Type} {f : α → List Value} {k : Nat} : ∀ (l : List α), (∀ x ∈ l, (f x).length = k) → (l.flatMap f).length = l.length * k
  | [], _ => by simp
  | x :: l, h => by
    rw [List.flatMap_cons, List.length_append, h x (by simp), flatMap_len8 l (fun y hy => h y (by simp [hy])), List.length_cons, Nat.add_mul]
    omega
/-- hashes that lie there, as append wants them -/
theorem HashesAt.src {w : World} {B : Nat} {A : Option Addr} {l : List (List UInt8)} (h : HashesAt w B A l) : Src w A (l.flatMap fun x => x.map byteV) := by
  have hl : ∀ x ∈ l, (x.map byteV).length = 32 := fun x hx => by rw [List.length_map]; exact all_of_at h (fun _ _ h => h.1) x hx
  intro j u hu
  have hlen : (l.flatMap fun x => x.map byteV).length = l.length * 32 := flatMap_len8 l hl
  have hj : j < (l.flatMap fun x => x.map byteV).length := (List.getElem?_eq_some_iff.1 hu).1
  have hd : j / 32 < l.length := by omega
  obtain ⟨b, off, hA, _, hc, _⟩ := h.range hd
  have e := flatMap_index l hl (j / 32) hd (j % 32) (by omega)
  rw [show j / 32 * 32 + j % 32 = j by omega, hu] at e
  refine ⟨_, hA, ?_⟩
  have := hc (j % 32) u e.symm
  rw [show off + j / 32 * 32 + j % 32 = off + j by omega] at this
  have e2 : (⟨b, off, none⟩ : Addr).add j = ⟨b, off + j, none⟩ := by unfold Addr.add; split <;> simp_all
  rw [e2]
  exact this
/-- a byte of a hash changed -/
theorem hashes_set {w : World} {B b off i j : Nat} {l : List (List UInt8)} (h : HashesAt w B (some ⟨b, off, none⟩) l) (hi : i < l.length) (hj : j < 32) (y : UInt8) : HashesAt (w.setCell ⟨b, off + i * 32 + j, none⟩ (byteV y)) B (some ⟨b, off, none⟩) (l.set i (l[i].set j y)) := by
  intro i' hi'
  rw [List.length_set] at hi'
  obtain ⟨b', off', hA, hb, hr, hk⟩ := h.range hi'
  injection hA with hA
  injection hA with h1 h2
  subst h1; subst h2
  by_cases e : i = i'
  · subst e
    refine ⟨b, off, (l[i].set j y).map byteV, rfl, hb, ⟨by simp [hk], by simp⟩, fun j' hj' => ?_⟩
    rw [List.length_map, List.length_set] at hj'
    by_cases ej : j = j'
    · subst ej
      have hc := hr j _ (List.getElem?_eq_getElem (by rw [List.length_map]; exact hj'))
      rw [World.cell?_setCell_same _ _ _ hc]
      simp
    · rw [World.cell?_setCell_other _ _ _ _ (by intro h; simp only [Addr.mk.injEq] at h; omega)]
      have hc := hr j' _ (List.getElem?_eq_getElem (by rw [List.length_map]; exact hj'))
      rw [hc]
      simp [List.getElem_set, ej]
  · refine ⟨b, off, l[i'].map byteV, rfl, hb, ⟨by simp [List.getElem_set, e, hk], by simp [List.getElem_set, e]⟩, fun j' hj' => ?_⟩
    rw [List.length_map] at hj'
    rw [World.cell?_setCell_other _ _ _ _ (by intro h; simp only [Addr.mk.injEq] at h; omega)]
    exact hr j' _ (List.getElem?_eq_getElem (by rw [List.length_map]; exact hj'))
set_option maxHeartbeats 8000000 in
theorem msgSame_walk (w : World) (m : Msgs.Msg) (A : Option Addr) (c : Nat) (A1 : Option Addr) (c1 : Nat) (A2 : Option Addr) (c2 : Nat) (h : MsgAt w w.heap.size m A c A1 c1 A2 c2) (a : Int) (ha : (Lit.int .u8 a).wf = true) :
    Calls Try.prog 7 #[msgV m A c A1 c1 A2 c2, .int .u8 a] w fun e w' => e = .returned (.bool true) ∧ Below w.heap.size w w' := by
  obtain ⟨w1, ms, hms, hv, hms7, hw1, hb1, hz1, hk1⟩ := msg_box w m A A1 A2 c c1 c2
  have HB1 := Lib.hid hb1
  have HZ1 := Lib.hid hz1
  have HK1 := Lib.hid hk1
  have HM7 := Lib.hid hms7
  have HMS := Lib.hid hms
  have HV := Lib.hid hv
  have HT := Lib.hid h
  have HGR := Lib.hid (fun W (hb : Below w.heap.size w W) => great_any2 m A A1 A2 c c1 c2 _ W (h.below hb) hb.size)
  have HPU := Lib.hid (fun W (hb : Below w.heap.size w W) => mput_any m A A1 A2 c c1 c2 _ W (h.below hb) hb.size)
  have HOK := Lib.hid h.ok
  rw [hv] at HGR HPU ⊢
  clear hb1 hz1 hk1 hms7 hms hv h
  go_enter Try.func7, Try.ntmps7
  go_upto_region 1 with (fail)
  rw [← hw1]
  clear hw1
  go_wp2_with fail
  refine (alive_any w1).mono ?_
  rintro e w2 ⟨rfl, hb2⟩
  have HB2 := Lib.hid (HB1.out.trans (hb2.mono HB1.out.size))
  have HK2 := Lib.hid (HK1.out.below hb2 HK1.out.lt)
  have hz2 : w.heap.size + 1 ≤ w2.heap.size := by rw [← HZ1.out]; exact hb2.size
  clear hb2
  go_wp2_with (refine wpList_load_row rfl 32 (.tmp 2) rfl w.heap.size (by rfl) 32 ms (0, 0) _ HK2.out Try.underlying32 rfl (by rw [HM7.out]; exact size_msg) ?_)
  refine (HGR.out w2 HB2.out).mono ?_
  rintro e w3 ⟨⟨v3, rfl, hv3⟩, hb3⟩
  have HB3 := Lib.hid (HB2.out.trans (hb3.mono HB2.out.size))
  have HK3 := Lib.hid (HK2.out.below hb3 (by omega))
  have hz3 : w.heap.size + 1 ≤ w3.heap.size := by have := hb3.size; omega
  clear hb3 HGR
  cases v3 with
  | true =>
    go_wp2_with fail
    go_ret
    exact ⟨rfl, HB3.out⟩
  | false =>
    have hid100 := hv3 rfl
    clear hv3
    obtain ⟨k0, k1, k2, k3, k4, k5, k6⟩ : w3.cell? ⟨w.heap.size, 0, none⟩ = some (.int .i64 m.kind) ∧ w3.cell? ⟨w.heap.size, 1, none⟩ = some (.int .u64 (m.n : Int)) ∧ w3.cell? ⟨w.heap.size, 2, none⟩ = some (.int .u32 (m.code : Int)) ∧ w3.cell? ⟨w.heap.size, 3, none⟩ = some (.slice A m.ids.length c) ∧ w3.cell? ⟨w.heap.size, 4, none⟩ = some (.int .u32 (m.tx.version : Int)) ∧ w3.cell? ⟨w.heap.size, 5, none⟩ = some (.slice A1 m.tx.ins.length c1) ∧ w3.cell? ⟨w.heap.size, 6, none⟩ = some (.slice A2 m.tx.outs.length c2) := by
      refine ⟨?_, ?_, ?_, ?_, ?_, ?_, ?_⟩ <;> (rw [HK3.out.cell, HMS.out]; rfl)
    have LW : w.heap.size < w3.heap.size := by omega
    go_upto_region 5 with (fail)
    have HN0 := Lib.hid HOK.out.n
    have HC0 := Lib.hid HOK.out.code
    have HMR := Lib.hid (show ms = msRow m.kind (m.n : Int) (m.code : Int) (.slice A m.ids.length c) (m.tx.version : Int) (.slice A1 m.tx.ins.length c1) (.slice A2 m.tx.outs.length c2) from HMS.out)
    have hmn : ∃ mn : Int, mn = (m.n : Int) ∧ 0 ≤ mn ∧ mn ≤ 18446744073709551615 := ⟨_, rfl, by omega, by have := HN0.out; omega⟩
    obtain ⟨mn, hmn0, hmn1, hmn2⟩ := hmn
    have hmc : ∃ mc : Int, mc = (m.code : Int) ∧ 0 ≤ mc ∧ mc ≤ 4294967295 := ⟨_, rfl, by omega, by have := HC0.out; omega⟩
    obtain ⟨mc, hmc0, hmc1, hmc2⟩ := hmc
    rw [← hmn0] at k1 HMR
    rw [← hmc0] at k2 HMR
    generalize (m.tx.version : Int) = ver at *
    obtain ⟨ids, hids⟩ : ∃ ids, ids = m.ids := ⟨_, rfl⟩
    rw [← hids] at k3 HMR hid100
    have HIDS := Lib.hid hids
    obtain ⟨n, hn⟩ : ∃ n, n = ids.length := ⟨_, rfl⟩
    rw [← hn] at k3 HMR hid100
    have HN := Lib.hid hn
    have HIA := Lib.hid (show HashesAt w w.heap.size A ids by rw [hids]; exact HT.out.ids)
    generalize m.tx.ins.length = ni at *
    generalize m.tx.outs.length = no at *
    clear hmn0 hmc0 hids hn HPU
    go_cut [5, 6, 7, 8] (fun u5 u6 u7 u8 wx => Four w3 (msRow m.kind mn mc (.slice A n c) ver (.slice A1 ni c1) (.slice A2 no c2)) u5 u6 u7 u8 wx)
    case first =>
      go_region_held3 (fun w' => w'.cell? ⟨w.heap.size, 0, none⟩ = some (.int .i64 m.kind) ∧ w'.cell? ⟨w.heap.size, 1, none⟩ = some (.int .u64 mn) ∧ w'.cell? ⟨w.heap.size, 2, none⟩ = some (.int .u32 mc) ∧ w'.cell? ⟨w.heap.size, 3, none⟩ = some (.slice A n c) ∧ w'.cell? ⟨w.heap.size, 4, none⟩ = some (.int .u32 ver) ∧ w'.cell? ⟨w.heap.size, 5, none⟩ = some (.slice A1 ni c1) ∧ w'.cell? ⟨w.heap.size, 6, none⟩ = some (.slice A2 no c2)) ((refine keep7 k0 k1 k2 k3 k4 k5 k6 LW ?_; (repeat (first | exact Below.refl _ _ | refine Below.drew ?_ | refine Below.alloc ?_ (by first | (simp; done) | (simp; omega)) _ | refine Below.setCell ?_ (by first | (simp; done) | (simp; omega)) _)))) (fail)
      all_goals
        go_wp2_with fail
        go_meet
        exact four_of w3 _ _ _ _ _ (by omega) (by omega) (by omega)
    case rest =>
      obtain ⟨P5, P6, P7, P8, rfl, rfl, rfl, rfl, ⟨q5, q6, q7, q8⟩, ⟨l5, l6, l7, l8⟩, ⟨d56, d57, d58, d67, d68, d78⟩, hbc⟩ := hcut
      have d65 := d56.symm
      have d75 := d57.symm
      have d85 := d58.symm
      have d76 := d67.symm
      have d86 := d68.symm
      have d87 := d78.symm
      have HQ5 := Lib.hid q5
      have HQ6 := Lib.hid q6
      have HQ7 := Lib.hid q7
      have HQ8 := Lib.hid q8
      have LP5 := q5.lt
      have LP6 := q6.lt
      have LP7 := q7.lt
      have LP8 := q8.lt
      have f51 := q5.frozen 1
      have f62 := q6.frozen 2
      have f70 := q7.frozen 0
      have p51 : wc.cell? ⟨P5, 1, none⟩ = some (.int .u64 mn) := (q5.cell 1).trans rfl
      have p62 : wc.cell? ⟨P6, 2, none⟩ = some (.int .u32 mc) := (q6.cell 2).trans rfl
      have p70 : wc.cell? ⟨P7, 0, none⟩ = some (.int .i64 m.kind) := (q7.cell 0).trans rfl
      have HKC := Lib.hid (HK3.out.below hbc LW)
      have HBC := Lib.hid (HB3.out.trans (hbc.mono HB3.out.size))
      have hzc := hbc.size
      clear k0 k1 k2 k3 k4 k5 k6 q5 q6 q7 q8 hbc HB3 HK3 HB2 HK2
      go_upto_region 9 with (fail)
      obtain ⟨xa, hxa⟩ : ∃ xa, xa = IntKind.u64.wrap (mn + 1) := ⟨_, rfl⟩
      obtain ⟨xb, hxb⟩ : ∃ xb, xb = (mc + 1) % 4294967296 := ⟨_, rfl⟩
      obtain ⟨xc, hxc⟩ : ∃ xc, xc = bits BinOp.xor IntKind.i64 m.kind 1 := ⟨_, rfl⟩
      have NA := Lib.hid (show (mn == xa) = false by rw [beq_eq_false_iff_ne, hxa, IntKind.wrap_u64]; omega)
      have NB := Lib.hid (show (xb == mc) = false by rw [beq_eq_false_iff_ne, hxb]; omega)
      have NC := Lib.hid (show (m.kind == xc) = false by rw [beq_eq_false_iff_ne, hxc]; exact fun h => xor_ne m.kind h.symm)
      rw [← hxa, ← hxb, ← hxc]
      obtain ⟨w5, hw5⟩ : ∃ w5, w5 = ((wc.setCell ⟨P5, 1, none⟩ (.int .u64 xa)).setCell ⟨P6, 2, none⟩ (.int .u32 xb)).setCell ⟨P7, 0, none⟩ (.int .i64 xc) := ⟨_, rfl⟩
      have RA := Lib.hid (show Bk w5 P5 32 (msRow m.kind xa mc (.slice A n c) ver (.slice A1 ni c1) (.slice A2 no c2)) by rw [hw5]; exact ((HQ5.out.set 1 _).far (p := ⟨P6, 2, none⟩) d56 _).far (p := ⟨P7, 0, none⟩) d57 _)
      have RB := Lib.hid (show Bk w5 P6 32 (msRow m.kind mn xb (.slice A n c) ver (.slice A1 ni c1) (.slice A2 no c2)) by rw [hw5]; exact ((HQ6.out.far (p := ⟨P5, 1, none⟩) d65 _).set 2 _).far (p := ⟨P7, 0, none⟩) d67 _)
      have RC := Lib.hid (show Bk w5 P7 32 (msRow xc mn mc (.slice A n c) ver (.slice A1 ni c1) (.slice A2 no c2)) by rw [hw5]; exact ((HQ7.out.far (p := ⟨P5, 1, none⟩) d75 _).far (p := ⟨P6, 2, none⟩) d76 _).set 0 _)
      have RD := Lib.hid (show Bk w5 P8 32 (msRow m.kind mn mc (.slice A n c) ver (.slice A1 ni c1) (.slice A2 no c2)) by rw [hw5]; exact ((HQ8.out.far (p := ⟨P5, 1, none⟩) d85 _).far (p := ⟨P6, 2, none⟩) d86 _).far (p := ⟨P7, 0, none⟩) d87 _)
      have e5 : w.heap.size ≠ P5 := by omega
      have e6 : w.heap.size ≠ P6 := by omega
      have e7 : w.heap.size ≠ P7 := by omega
      have e8 : P8 ≠ w.heap.size := by omega
      have RM := Lib.hid (show Bk w5 w.heap.size 32 ms by rw [hw5]; exact ((HKC.out.far (p := ⟨P5, 1, none⟩) e5 _).far (p := ⟨P6, 2, none⟩) e6 _).far (p := ⟨P7, 0, none⟩) e7 _)
      have HB5 := Lib.hid (show Below w.heap.size w w5 by rw [hw5]; exact ((HBC.out.setCell (by show _ ≤ P5; omega) _).setCell (by show _ ≤ P6; omega) _).setCell (by show _ ≤ P7; omega) _)
      have hz5 : wc.heap.size = w5.heap.size := by rw [hw5]; simp
      rw [← hw5]
      clear hw5 hxa hxb hxc p51 p62 p70 f51 f62 f70 HQ5 HQ6 HQ7 HQ8 HKC HBC
      have L5 : P5 < w5.heap.size := by omega
      have L6 : P6 < w5.heap.size := by omega
      have L7 : P7 < w5.heap.size := by omega
      have L8 : P8 < w5.heap.size := by omega
      have LM : w.heap.size < w5.heap.size := by omega
      clear LP5 LP6 LP7 LP8 hz5 hzc
      have m3 : w5.cell? ⟨w.heap.size, 3, none⟩ = some (.slice A n c) := by rw [RM.out.cell, HMR.out]; rfl
      obtain ⟨i1, hi1, hy0, hy1, hy2⟩ := info_parts hash_info8
      have Hi := Lib.hid hi1
      have Hz := Lib.hid hy0
      have Hz1 := Lib.hid hy1
      have Hz2 := Lib.hid hy2
      have HOE := Lib.hid (hash_empty w5)
      have HSI := Lib.hid (HashesAt.src (show HashesAt (w5.alloc (.cells #[] 45)) w.heap.size A ids from At.below (At.below HIA.out HB5.out) ((Joins.below_alloc1 w5 _).mono HB5.out.size)))
      have HIL := Lib.hid (show ∀ x ∈ ids, (x.map byteV).length = 32 from fun x hx => by rw [List.length_map]; exact all_of_at HIA.out (fun _ _ h => h.1) x hx)
      have HI1 := Lib.hid (show ∀ u ∈ ids.flatMap (fun x => x.map byteV), u.oneCell' = true from fun u hu => by
        obtain ⟨x, _, hx⟩ := List.mem_flatMap.1 hu
        exact oneCell_bytes _ u hx)
      have HFL := Lib.hid (show (ids.flatMap (fun x => x.map byteV)).length = n * 32 by rw [HN.out]; exact flatMap_len8 ids HIL.out)
      clear hi1 hy0 hy1 hy2
      go_upto_region 10 with (at_builtin; refine wpList_app _ rfl (.tmp 29) (.tmp 31) _ rfl w5.heap.size 45 i1 _ 32 32 Try.underlying26 Hi.out Hz.out Hz1.out Hz2.out rfl (by decide) (.slice (some ⟨w5.heap.size, 0, none⟩) 0 0) 0 [] rfl HOE.out A n c (ids.flatMap (fun x => x.map byteV)) rfl HFL.out HSI.out HI1.out (by unfold maxLen; omega) (by omega) (by simp) ?_; intro v9 w9 hrow9 hg9 hat9; rw [Nat.zero_add, List.nil_append] at hrow9; have G9 := Lib.hid (Grw.of_app hg9 hat9); have RA9 := Lib.hid (G9.out.bk (RA.out.alloc (.cells #[] 45)) (ne_own L5)); have RB9 := Lib.hid (G9.out.bk (RB.out.alloc (.cells #[] 45)) (ne_own L6)); have RC9 := Lib.hid (G9.out.bk (RC.out.alloc (.cells #[] 45)) (ne_own L7)); have RD9 := Lib.hid (G9.out.bk (RD.out.alloc (.cells #[] 45)) (ne_own L8)); have RM9 := Lib.hid (G9.out.bk (RM.out.alloc (.cells #[] 45)) (ne_own LM)); have HB9 := Lib.hid ((HB5.out.alloc HB5.out.size (.cells #[] 45)).trans ((own_low9 hg9 HOE.out (Nat.le_refl _) (by simp)).mono (by omega))); have hz9 : w5.heap.size ≤ w9.heap.size := Nat.le_trans (Joins.below_alloc1 w5 (.cells #[] 45)).size hg9.size; obtain ⟨A9, cp9, rfl, hcp9, hcm9, hA9, hcl9⟩ := own_form hrow9; have HO9 := Lib.hid (show w9.ownsRow w5.heap.size 45 32 (.slice A9 n cp9) n (ids.flatMap (fun x => x.map byteV)) from hrow9); have d83' : w9.cell? ⟨P8, 3, none⟩ = some (.slice A n c) := (RD9.out.1.cell 3).trans rfl; have fd3' := RD9.out.1.frozen 3; clear hrow9 hg9 hat9 hA9 hcl9 G9)
      obtain ⟨w10, hw10⟩ : ∃ w10, w10 = w9.setCell ⟨P8, 3, none⟩ (.slice A9 n cp9) := ⟨_, rfl⟩
      have k910 : Kp (fun i => i = P8) w9 w10 := by rw [hw10]; exact kp_cell1 _ _ _ _
      have RA10 := Lib.hid (RA9.out.1.kp k910 (by show ¬ P5 = P8; exact d58))
      have RB10 := Lib.hid (RB9.out.1.kp k910 (by show ¬ P6 = P8; exact d68))
      have RC10 := Lib.hid (RC9.out.1.kp k910 (by show ¬ P7 = P8; exact d78))
      have RM10 := Lib.hid (RM9.out.1.kp k910 (by show ¬ w.heap.size = P8; omega))
      have RD10 := Lib.hid (show Bk w10 P8 32 (msRow m.kind mn mc (.slice A9 n cp9) ver (.slice A1 ni c1) (.slice A2 no c2)) by rw [hw10]; exact RD9.out.1.set 3 _)
      have HB10 := Lib.hid (Kp.from_elder HB9.out k910 (fun i hi e => by omega))
      have hz10 : w5.heap.size ≤ w10.heap.size := by have := k910.size; omega
      have HO10 := Lib.hid (HO9.out.kept_far k910 (fun g hg e => RD9.out.2 (by rw [← e]; exact hg)))
      have d83 : w10.cell? ⟨P8, 3, none⟩ = some (.slice A9 n cp9) := (RD10.out.cell 3).trans rfl
      have fd3 := RD10.out.frozen 3
      have NEA := Lib.hid RA9.out.2
      have NEB := Lib.hid RB9.out.2
      have NEC := Lib.hid RC9.out.2
      have NED := Lib.hid RD9.out.2
      have NEM := Lib.hid RM9.out.2
      rw [← hw10]
      clear hw10 k910 m3 d83' fd3' RA9 RB9 RC9 RD9 RM9 HB9 HO9 HOE HSI RA RB RC RD RM HB5
      obtain ⟨I0, hI0⟩ : ∃ I0 : Value, I0 = .slice A n c := ⟨_, rfl⟩
      rw [← hI0] at RA10 RB10 RC10 HMR
      have HI0 := Lib.hid (show I0 = .slice A ids.length c by rw [hI0, HN.out])
      have HIM := Lib.hid (show ids.length ≤ maxLen by rw [← HN.out]; unfold maxLen; omega)
      clear hI0
      rcases Nat.eq_zero_or_pos n with hn0 | hn0
      focus
        subst hn0
        have hni : ids = [] := List.eq_nil_of_length_eq_zero HN.out.symm
        obtain ⟨ab, hab⟩ := byte_of ha
        have HAB := Lib.hid hab
        obtain ⟨h0, hh0⟩ : ∃ h0 : List UInt8, h0 = ab :: List.replicate 31 0 := ⟨_, rfl⟩
        have HHV := Lib.hid (show h0.map byteV = [.int .u8 a, .int .u8 0, .int .u8 0, .int .u8 0, .int .u8 0, .int .u8 0, .int .u8 0, .int .u8 0, .int .u8 0, .int .u8 0, .int .u8 0, .int .u8 0, .int .u8 0, .int .u8 0, .int .u8 0, .int .u8 0, .int .u8 0, .int .u8 0, .int .u8 0, .int .u8 0, .int .u8 0, .int .u8 0, .int .u8 0, .int .u8 0, .int .u8 0, .int .u8 0, .int .u8 0, .int .u8 0, .int .u8 0, .int .u8 0, .int .u8 0, .int .u8 0] by rw [hh0, hab]; rfl)
        have HHL := Lib.hid (show h0.length = 32 by rw [hh0]; rfl)
        have HNE0 := Lib.hid (show [h0] ≠ ids by rw [hni]; simp)
        clear hab hh0
        have HO10' := Lib.hid (show w10.ownsRow w5.heap.size 45 32 (.slice A9 0 cp9) 0 [] by have := HO10.out; rw [hni] at this; exact this)
        have HIL0 := Lib.hid (show ∀ u ∈ ([.int .u8 a, .int .u8 0, .int .u8 0, .int .u8 0, .int .u8 0, .int .u8 0, .int .u8 0, .int .u8 0, .int .u8 0, .int .u8 0, .int .u8 0, .int .u8 0, .int .u8 0, .int .u8 0, .int .u8 0, .int .u8 0, .int .u8 0, .int .u8 0, .int .u8 0, .int .u8 0, .int .u8 0, .int .u8 0, .int .u8 0, .int .u8 0, .int .u8 0, .int .u8 0, .int .u8 0, .int .u8 0, .int .u8 0, .int .u8 0, .int .u8 0, .int .u8 0] : List Value), u.oneCell' = true by rw [← HHV.out]; exact oneCell_bytes _)
        clear HO10 hni HFL HIL HI1
        go_upto_region 13 with (at_builtin; refine wpList_app _ rfl (.tmp 55) (.tmp 58) _ rfl w5.heap.size 45 i1 _ 32 32 Try.underlying26 Hi.out Hz.out Hz1.out Hz2.out rfl (by decide) (.slice A9 0 cp9) 0 [] rfl (own_below HO10'.out (Joins.below_alloc1 w10 (.cells ([.int .u8 a, .int .u8 0, .int .u8 0, .int .u8 0, .int .u8 0, .int .u8 0, .int .u8 0, .int .u8 0, .int .u8 0, .int .u8 0, .int .u8 0, .int .u8 0, .int .u8 0, .int .u8 0, .int .u8 0, .int .u8 0, .int .u8 0, .int .u8 0, .int .u8 0, .int .u8 0, .int .u8 0, .int .u8 0, .int .u8 0, .int .u8 0, .int .u8 0, .int .u8 0, .int .u8 0, .int .u8 0, .int .u8 0, .int .u8 0, .int .u8 0, .int .u8 0] : List Value).toArray 45))) (some ⟨w10.heap.size, 0, none⟩) 1 1 [.int .u8 a, .int .u8 0, .int .u8 0, .int .u8 0, .int .u8 0, .int .u8 0, .int .u8 0, .int .u8 0, .int .u8 0, .int .u8 0, .int .u8 0, .int .u8 0, .int .u8 0, .int .u8 0, .int .u8 0, .int .u8 0, .int .u8 0, .int .u8 0, .int .u8 0, .int .u8 0, .int .u8 0, .int .u8 0, .int .u8 0, .int .u8 0, .int .u8 0, .int .u8 0, .int .u8 0, .int .u8 0, .int .u8 0, .int .u8 0, .int .u8 0, .int .u8 0] rfl rfl (Src.new w10 [.int .u8 a, .int .u8 0, .int .u8 0, .int .u8 0, .int .u8 0, .int .u8 0, .int .u8 0, .int .u8 0, .int .u8 0, .int .u8 0, .int .u8 0, .int .u8 0, .int .u8 0, .int .u8 0, .int .u8 0, .int .u8 0, .int .u8 0, .int .u8 0, .int .u8 0, .int .u8 0, .int .u8 0, .int .u8 0, .int .u8 0, .int .u8 0, .int .u8 0, .int .u8 0, .int .u8 0, .int .u8 0, .int .u8 0, .int .u8 0, .int .u8 0, .int .u8 0] 45) HIL0.out (by unfold maxLen; omega) (by omega) (by simp; omega) ?_; intro v11 w11 hrow11 hg11 hat11; rw [Nat.zero_add, List.nil_append] at hrow11; have G11 := Lib.hid (Grw.of_app hg11 hat11); have RA11 := Lib.hid (G11.out.bk (RA10.out.alloc (.cells ([.int .u8 a, .int .u8 0, .int .u8 0, .int .u8 0, .int .u8 0, .int .u8 0, .int .u8 0, .int .u8 0, .int .u8 0, .int .u8 0, .int .u8 0, .int .u8 0, .int .u8 0, .int .u8 0, .int .u8 0, .int .u8 0, .int .u8 0, .int .u8 0, .int .u8 0, .int .u8 0, .int .u8 0, .int .u8 0, .int .u8 0, .int .u8 0, .int .u8 0, .int .u8 0, .int .u8 0, .int .u8 0, .int .u8 0, .int .u8 0, .int .u8 0, .int .u8 0] : List Value).toArray 45)) NEA.out).1; have RB11 := Lib.hid (G11.out.bk (RB10.out.alloc (.cells ([.int .u8 a, .int .u8 0, .int .u8 0, .int .u8 0, .int .u8 0, .int .u8 0, .int .u8 0, .int .u8 0, .int .u8 0, .int .u8 0, .int .u8 0, .int .u8 0, .int .u8 0, .int .u8 0, .int .u8 0, .int .u8 0, .int .u8 0, .int .u8 0, .int .u8 0, .int .u8 0, .int .u8 0, .int .u8 0, .int .u8 0, .int .u8 0, .int .u8 0, .int .u8 0, .int .u8 0, .int .u8 0, .int .u8 0, .int .u8 0, .int .u8 0, .int .u8 0] : List Value).toArray 45)) NEB.out).1; have RC11 := Lib.hid (G11.out.bk (RC10.out.alloc (.cells ([.int .u8 a, .int .u8 0, .int .u8 0, .int .u8 0, .int .u8 0, .int .u8 0, .int .u8 0, .int .u8 0, .int .u8 0, .int .u8 0, .int .u8 0, .int .u8 0, .int .u8 0, .int .u8 0, .int .u8 0, .int .u8 0, .int .u8 0, .int .u8 0, .int .u8 0, .int .u8 0, .int .u8 0, .int .u8 0, .int .u8 0, .int .u8 0, .int .u8 0, .int .u8 0, .int .u8 0, .int .u8 0, .int .u8 0, .int .u8 0, .int .u8 0, .int .u8 0] : List Value).toArray 45)) NEC.out).1; have RD11 := Lib.hid (G11.out.bk (RD10.out.alloc (.cells ([.int .u8 a, .int .u8 0, .int .u8 0, .int .u8 0, .int .u8 0, .int .u8 0, .int .u8 0, .int .u8 0, .int .u8 0, .int .u8 0, .int .u8 0, .int .u8 0, .int .u8 0, .int .u8 0, .int .u8 0, .int .u8 0, .int .u8 0, .int .u8 0, .int .u8 0, .int .u8 0, .int .u8 0, .int .u8 0, .int .u8 0, .int .u8 0, .int .u8 0, .int .u8 0, .int .u8 0, .int .u8 0, .int .u8 0, .int .u8 0, .int .u8 0, .int .u8 0] : List Value).toArray 45)) NED.out).1; have RM11 := Lib.hid (G11.out.bk (RM10.out.alloc (.cells ([.int .u8 a, .int .u8 0, .int .u8 0, .int .u8 0, .int .u8 0, .int .u8 0, .int .u8 0, .int .u8 0, .int .u8 0, .int .u8 0, .int .u8 0, .int .u8 0, .int .u8 0, .int .u8 0, .int .u8 0, .int .u8 0, .int .u8 0, .int .u8 0, .int .u8 0, .int .u8 0, .int .u8 0, .int .u8 0, .int .u8 0, .int .u8 0, .int .u8 0, .int .u8 0, .int .u8 0, .int .u8 0, .int .u8 0, .int .u8 0, .int .u8 0, .int .u8 0] : List Value).toArray 45)) NEM.out).1; have HB11 := Lib.hid ((HB10.out.alloc HB10.out.size (.cells ([.int .u8 a, .int .u8 0, .int .u8 0, .int .u8 0, .int .u8 0, .int .u8 0, .int .u8 0, .int .u8 0, .int .u8 0, .int .u8 0, .int .u8 0, .int .u8 0, .int .u8 0, .int .u8 0, .int .u8 0, .int .u8 0, .int .u8 0, .int .u8 0, .int .u8 0, .int .u8 0, .int .u8 0, .int .u8 0, .int .u8 0, .int .u8 0, .int .u8 0, .int .u8 0, .int .u8 0, .int .u8 0, .int .u8 0, .int .u8 0, .int .u8 0, .int .u8 0] : List Value).toArray 45)).trans ((own_low9 hg11 (own_below HO10'.out (Joins.below_alloc1 w10 (.cells ([.int .u8 a, .int .u8 0, .int .u8 0, .int .u8 0, .int .u8 0, .int .u8 0, .int .u8 0, .int .u8 0, .int .u8 0, .int .u8 0, .int .u8 0, .int .u8 0, .int .u8 0, .int .u8 0, .int .u8 0, .int .u8 0, .int .u8 0, .int .u8 0, .int .u8 0, .int .u8 0, .int .u8 0, .int .u8 0, .int .u8 0, .int .u8 0, .int .u8 0, .int .u8 0, .int .u8 0, .int .u8 0, .int .u8 0, .int .u8 0, .int .u8 0, .int .u8 0] : List Value).toArray 45))) (Nat.le_refl _) (by simp; omega)).mono (by omega))); have hz11 : w5.heap.size ≤ w11.heap.size := Nat.le_trans hz10 (Nat.le_trans (Joins.below_alloc1 w10 (.cells ([.int .u8 a, .int .u8 0, .int .u8 0, .int .u8 0, .int .u8 0, .int .u8 0, .int .u8 0, .int .u8 0, .int .u8 0, .int .u8 0, .int .u8 0, .int .u8 0, .int .u8 0, .int .u8 0, .int .u8 0, .int .u8 0, .int .u8 0, .int .u8 0, .int .u8 0, .int .u8 0, .int .u8 0, .int .u8 0, .int .u8 0, .int .u8 0, .int .u8 0, .int .u8 0, .int .u8 0, .int .u8 0, .int .u8 0, .int .u8 0, .int .u8 0, .int .u8 0] : List Value).toArray 45)).size hg11.size); rw [← HHV.out] at hrow11; obtain ⟨A11, cp11, rfl, -, -, hAA, -⟩ := own_form hrow11; obtain ⟨A11', cp11', hv11, -, -, -, hat11'⟩ := At.of_own (k := 32) (w := w11) (base := w5.heap.size) (e := 45) (n := 1) (R := IsHash) (v := .slice A11 1 cp11) (l := [h0]) (fun x : List UInt8 => x.map byteV) (fun x hx => by rw [List.mem_singleton.1 hx]; exact ⟨by rw [List.length_map]; exact HHL.out, HHL.out, rfl⟩) (by omega) (by rw [List.flatMap_singleton]; exact hrow11); injection hv11 with hv11 hva hvb; subst hv11; clear hva hvb; have HH11 := Lib.hid hat11'; have HAA := Lib.hid hAA; have d83' : w11.cell? ⟨P8, 3, none⟩ = some (.slice A9 0 cp9) := (RD11.out.cell 3).trans rfl; have fd3' := RD11.out.frozen 3; clear hrow11 hg11 hat11 hat11' hAA G11)
        obtain ⟨w12, hw12⟩ : ∃ w12, w12 = w11.setCell ⟨P8, 3, none⟩ (.slice A11 1 cp11) := ⟨_, rfl⟩
        have k12 : Kp (fun i => i = P8) w11 w12 := by rw [hw12]; exact kp_cell1 _ _ _ _
        have RA12 := Lib.hid (RA11.out.kp k12 (by show ¬ P5 = P8; exact d58))
        have RB12 := Lib.hid (RB11.out.kp k12 (by show ¬ P6 = P8; exact d68))
        have RC12 := Lib.hid (RC11.out.kp k12 (by show ¬ P7 = P8; exact d78))
        have RM12 := Lib.hid (RM11.out.kp k12 (by show ¬ w.heap.size = P8; omega))
        have RD12 := Lib.hid (show Bk w12 P8 32 (msRow m.kind mn mc (.slice A11 1 cp11) ver (.slice A1 ni c1) (.slice A2 no c2)) by rw [hw12]; exact RD11.out.set 3 _)
        have HB12 := Lib.hid (Kp.from_elder HB11.out k12 (fun i hi e => by omega))
        obtain ⟨n12, hn12⟩ : ∃ n12, n12 = 1 := ⟨_, rfl⟩
        obtain ⟨l12, hl12⟩ : ∃ l12, l12 = [h0] := ⟨_, rfl⟩
        have HH12 := Lib.hid (show HashesAt w12 w12.heap.size A11 l12 by
          rw [hl12]
          exact hashes_kp HH11.out k12 (fun a ha => by have := (HAA.out a ha).1; omega))
        have HL12 := Lib.hid (show l12.length = n12 by rw [hl12, hn12]; rfl)
        have HNE := Lib.hid (show l12 ≠ ids by rw [hl12]; exact HNE0.out)
        have hn12m : n12 ≤ maxLen := by rw [hn12]; decide
        rw [← hn12] at RD12
        rw [← hw12, ← hn12]
        have HIA12 := HIA
        clear hw12 hn12 hl12 k12
      rotate_left
      focus
        obtain ⟨g9, cur9, hA9g, hg9b, hbk9⟩ : ∃ g9 cur9, A9 = some ⟨g9, 0, none⟩ ∧ w5.heap.size ≤ g9 ∧ Bk w10 g9 45 cur9 := by
          rcases HO10.out.2 with ⟨hv, hn'⟩ | ⟨g9, cap9, cur9, hv, hgb, hg, _⟩
          · omega
          · injection hv with hv hva hvb
            exact ⟨g9, cur9, hv, hgb, hg⟩
        obtain ⟨A9', cap9', hv9', -, -, -, hat9'⟩ := At.of_own (R := IsHash) (fun x : List UInt8 => x.map byteV) (fun x hx => ⟨HIL.out x hx, by have := HIL.out x hx; rwa [List.length_map] at this, rfl⟩) (by omega) HO10.out
        injection hv9' with hv9' hva hvb
        clear hva hvb
        rw [← hv9', hA9g] at hat9'
        subst hA9g
        have HAT9 := Lib.hid hat9'
        obtain ⟨ha0, ha1⟩ := wf_u8 ha
        obtain ⟨i, hi⟩ : ∃ i : Nat, a % (n : Int) = (i : Int) := ⟨(a % (n : Int)).toNat, by rw [Int.toNat_of_nonneg (Int.emod_nonneg _ (by omega))]⟩
        have hin : i < n := by have := Int.emod_lt_of_pos a (show (0 : Int) < (n : Int) by omega); omega
        have hrem : (a : Int).tmod (n : Int) = (i : Int) := by rw [IntWalk.rem_in _ _ ha0, hi]
        obtain ⟨j, hj⟩ : ∃ j : Nat, a % 32 = (j : Int) := ⟨(a % 32).toNat, by omega⟩
        have hj32 : j < 32 := by omega
        have hrem2 : (a : Int).tmod 32 = (j : Int) := by rw [IntWalk.rem_in _ _ ha0, hj]
        have hil : i < ids.length := by rw [← HN.out]; exact hin
        obtain ⟨b', o', hAe, _, hr', hxl⟩ := HashesAt.range hat9' hil
        injection hAe with hAe
        injection hAe with he1 he2
        subst he1
        subst he2
        have hjl : j < ids[i].length := by rw [hxl]; exact hj32
        have hxc := hr' j _ (List.getElem?_eq_getElem (by rw [List.length_map]; exact hjl))
        rw [List.getElem_map, Nat.zero_add] at hxc
        obtain ⟨y, hy⟩ : ∃ y : UInt8, y = UInt8.ofNat (ids[i][j].toNat + 1) := ⟨_, rfl⟩
        have hyx : y ≠ ids[i][j] := by
          have h256 := (ids[i][j]).toNat_lt
          intro hh
          have := congrArg UInt8.toNat hh
          rw [hy, UInt8.toNat_ofNat'] at this
          omega
        have HYV := Lib.hid (show Value.int .u8 (((ids[i][j].toNat : Int) + 1) % 256) = byteV y by rw [hy, ← byteV_nat]; rfl)
        have HSET := Lib.hid (hashes_set hat9' hil hj32 y)
        have HNE0 := Lib.hid (show ids.set i (ids[i].set j y) ≠ ids from fun hh => by
          have h1 : (ids.set i (ids[i].set j y))[i]? = ids[i]? := by rw [hh]
          rw [List.getElem?_set_self hil, List.getElem?_eq_getElem hil] at h1
          injection h1 with h1
          have h2 : (ids[i].set j y)[j]? = ids[i][j]? := by rw [h1]
          rw [List.getElem?_set_self hjl, List.getElem?_eq_getElem hjl] at h2
          injection h2 with h2
          exact hyx h2)
        have hxb := (ids[i][j]).toNat_lt
        have hcell : w10.cell? ⟨g9, i * 32 + j, none⟩ = some (.int .u8 (ids[i][j].toNat : Int)) := hxc
        have fx := hbk9.frozen (i * 32 + j)
        have j1 : (0 : Int) ≤ (i : Int) := by omega
        have j2 : (i : Int) < (n : Int) := by omega
        have j3 : (0 : Int) ≤ (j : Int) := by omega
        have j4 : (j : Int) < 32 := by omega
        have j5 : (n : Int) ≠ 0 := by omega
        have j6 : (0 : Int) < (n : Int) := by omega
        obtain ⟨xv, hxv⟩ : ∃ xv, xv = ids[i][j].toNat := ⟨_, rfl⟩
        rw [← hxv] at hcell HYV hxb
        have HGP : g9 ≠ P8 := by omega
        have HGM : P8 ≠ g9 := by omega
        clear hxc hr' hat9' hbk9 hi hj hy hyx hxv hv9' HO10 hjl hxl HFL HIL HI1
        go_upto_region 11 with (fail)
        go_region
        rw [HYV.out]
        obtain ⟨w12, hw12⟩ : ∃ w12, w12 = (w10.setCell ⟨g9, i * 32 + j, none⟩ (byteV y)).drew := ⟨_, rfl⟩
        have k12 : Kp (fun z => z = g9) w10 w12 := by rw [hw12]; exact (kp_cell1 _ _ _ _).drew
        have RA12 := Lib.hid (RA10.out.kp k12 (by show ¬ P5 = g9; exact fun e => NEA.out (by rw [e]; rfl)))
        have RB12 := Lib.hid (RB10.out.kp k12 (by show ¬ P6 = g9; exact fun e => NEB.out (by rw [e]; rfl)))
        have RC12 := Lib.hid (RC10.out.kp k12 (by show ¬ P7 = g9; exact fun e => NEC.out (by rw [e]; rfl)))
        have RM12 := Lib.hid (RM10.out.kp k12 (by show ¬ w.heap.size = g9; omega))
        have RD12 := Lib.hid (RD10.out.kp k12 (by show ¬ P8 = g9; omega))
        have HB12 := Lib.hid (Kp.from_elder HB10.out k12 (fun i hi e => by omega))
        obtain ⟨n12, hn12⟩ : ∃ n12, n12 = n := ⟨_, rfl⟩
        obtain ⟨l12, hl12⟩ : ∃ l12, l12 = ids.set i (ids[i].set j y) := ⟨_, rfl⟩
        obtain ⟨A11, hA11⟩ : ∃ A11 : Option Addr, A11 = some ⟨g9, 0, none⟩ := ⟨_, rfl⟩
        obtain ⟨cp11, hcp11⟩ : ∃ cp11, cp11 = cp9 := ⟨_, rfl⟩
        have HH12 := Lib.hid (show HashesAt w12 w12.heap.size A11 l12 by
          rw [hl12, hA11, hw12]
          have := HSET.out
          rw [Nat.zero_add] at this
          refine At.mono (show HashesAt (w10.setCell ⟨g9, i * 32 + j, none⟩ (byteV y)).drew w10.heap.size (some ⟨g9, 0, none⟩) (ids.set i (ids[i].set j y)) from this) ?_
          have := k12.size
          rw [hw12] at this
          exact this)
        have HL12 := Lib.hid (show l12.length = n12 by rw [hl12, List.length_set, hn12, HN.out])
        have HNE := Lib.hid (show l12 ≠ ids by rw [hl12]; exact HNE0.out)
        have hn12m : n12 ≤ maxLen := by unfold maxLen; omega
        have HIA12 := HIA
        rw [← hA11, ← hcp11, ← hn12] at RD12
        rw [← hw12]
        clear hw12 hn12 hl12 hA11 hcp11 k12 hcell fx hrem hrem2
      all_goals
        clear HNE0
        have HBW := Lib.hid (show ∀ W, Below w12.heap.size w12 W → Below w.heap.size w W from fun W hb => HB12.out.trans (hb.mono HB12.out.size))
        have C1 := Lib.hid (fun W (hb : Below w.heap.size w W) => msame_self m A A1 A2 A A1 A2 c c1 c2 c c1 c2 w.heap.size w.heap.size W (HT.out.below hb) (HT.out.below hb) hb.size hb.size)
        rw [HV.out] at C1
        have C2 := Lib.hid (fun W => (show Calls Try.prog 16 #[.agg ms, .agg (msRow m.kind xa mc I0 ver (.slice A1 ni c1) (.slice A2 no c2))] W fun e w' => e = .returned (.bool false) ∧ Below W.heap.size W w' by rw [HMR.out]; exact msame_n m.kind mn xa mc mc ver ver I0 I0 (.slice A1 ni c1) (.slice A1 ni c1) (.slice A2 no c2) (.slice A2 no c2) W NA.out))
        have C3 := Lib.hid (fun W => (show Calls Try.prog 16 #[.agg (msRow m.kind mn xb I0 ver (.slice A1 ni c1) (.slice A2 no c2)), .agg ms] W fun e w' => e = .returned (.bool false) ∧ Below W.heap.size W w' by rw [HMR.out]; exact msame_code m.kind mn xb mc ver ver I0 I0 (.slice A1 ni c1) (.slice A1 ni c1) (.slice A2 no c2) (.slice A2 no c2) W NB.out))
        have C4 := Lib.hid (fun W => (show Calls Try.prog 16 #[.agg ms, .agg (msRow xc mn mc I0 ver (.slice A1 ni c1) (.slice A2 no c2))] W fun e w' => e = .returned (.bool false) ∧ Below W.heap.size W w' by rw [HMR.out]; exact msame_kind m.kind xc mn mn mc mc ver ver I0 I0 (.slice A1 ni c1) (.slice A1 ni c1) (.slice A2 no c2) (.slice A2 no c2) W NC.out))
        have C5 := Lib.hid (fun W (hb : Below w12.heap.size w12 W) => (show Calls Try.prog 16 #[.agg (msRow m.kind mn mc (.slice A11 n12 cp11) ver (.slice A1 ni c1) (.slice A2 no c2)), .agg ms] W fun e w' => e = .returned (.bool false) ∧ Below W.heap.size W w' by rw [HMR.out, HI0.out]; exact msame_ids m.kind mn mc ver ver (.slice A1 ni c1) (.slice A1 ni c1) (.slice A2 no c2) (.slice A2 no c2) A11 A n12 ids.length cp11 c w12.heap.size w.heap.size l12 ids W HL12.out rfl hn12m HIM.out (At.below HH12.out hb) (At.below HIA12.out (HBW.out W hb)) hb.size (HBW.out W hb).size HNE.out))
        have HSS := Lib.hid (Below.refl w12.heap.size w12)
        go_wp2_with (first | (refine wpList_load_row_g (by rfl) 32 (.tmp 2) rfl w.heap.size (by rfl) 32 ms (0, 0) _ RM12.out Try.underlying32 rfl (by rw [HM7.out]; exact size_msg) ?_))
        refine (C1.out _ (HBW.out _ HSS.out)).mono ?_
        rintro e w13 ⟨rfl, hb13⟩
        have RA13 := Lib.hid (RA12.out.below hb13 RA12.out.lt)
        have RB13 := Lib.hid (RB12.out.below hb13 RB12.out.lt)
        have RC13 := Lib.hid (RC12.out.below hb13 RC12.out.lt)
        have RD13 := Lib.hid (RD12.out.below hb13 RD12.out.lt)
        have RM13 := Lib.hid (RM12.out.below hb13 RM12.out.lt)
        have HSS := Lib.hid (HSS.out.trans (hb13.mono HSS.out.size))
        clear hb13 RA12 RB12 RC12 RD12 RM12
        go_wp2_with (first | (refine wpList_load_row_g (by rfl) 32 (.tmp 2) rfl w.heap.size (by rfl) 32 ms (0, 0) _ RM13.out Try.underlying32 rfl (by rw [HM7.out]; exact size_msg) ?_) | (refine wpList_load_row_g (by rfl) 32 (.tmp 5) rfl P5 (by rfl) 32 (msRow m.kind xa mc I0 ver (.slice A1 ni c1) (.slice A2 no c2)) (0, 0) _ RA13.out Try.underlying32 rfl (by exact size_msg) ?_))
        refine (C2.out _).mono ?_
        rintro e w14 ⟨rfl, hb14⟩
        have RA14 := Lib.hid (RA13.out.below hb14 RA13.out.lt)
        have RB14 := Lib.hid (RB13.out.below hb14 RB13.out.lt)
        have RC14 := Lib.hid (RC13.out.below hb14 RC13.out.lt)
        have RD14 := Lib.hid (RD13.out.below hb14 RD13.out.lt)
        have RM14 := Lib.hid (RM13.out.below hb14 RM13.out.lt)
        have HSS := Lib.hid (HSS.out.trans (hb14.mono HSS.out.size))
        clear hb14 RA13 RB13 RC13 RD13 RM13
        go_wp2_with (first | (refine wpList_load_row_g (by rfl) 32 (.tmp 6) rfl P6 (by rfl) 32 (msRow m.kind mn xb I0 ver (.slice A1 ni c1) (.slice A2 no c2)) (0, 0) _ RB14.out Try.underlying32 rfl (by exact size_msg) ?_) | (refine wpList_load_row_g (by rfl) 32 (.tmp 2) rfl w.heap.size (by rfl) 32 ms (0, 0) _ RM14.out Try.underlying32 rfl (by rw [HM7.out]; exact size_msg) ?_))
        refine (C3.out _).mono ?_
        rintro e w15 ⟨rfl, hb15⟩
        have RA15 := Lib.hid (RA14.out.below hb15 RA14.out.lt)
        have RB15 := Lib.hid (RB14.out.below hb15 RB14.out.lt)
        have RC15 := Lib.hid (RC14.out.below hb15 RC14.out.lt)
        have RD15 := Lib.hid (RD14.out.below hb15 RD14.out.lt)
        have RM15 := Lib.hid (RM14.out.below hb15 RM14.out.lt)
        have HSS := Lib.hid (HSS.out.trans (hb15.mono HSS.out.size))
        clear hb15 RA14 RB14 RC14 RD14 RM14
        go_wp2_with (first | (refine wpList_load_row_g (by rfl) 32 (.tmp 2) rfl w.heap.size (by rfl) 32 ms (0, 0) _ RM15.out Try.underlying32 rfl (by rw [HM7.out]; exact size_msg) ?_) | (refine wpList_load_row_g (by rfl) 32 (.tmp 7) rfl P7 (by rfl) 32 (msRow xc mn mc I0 ver (.slice A1 ni c1) (.slice A2 no c2)) (0, 0) _ RC15.out Try.underlying32 rfl (by exact size_msg) ?_))
        refine (C4.out _).mono ?_
        rintro e w16 ⟨rfl, hb16⟩
        have RA16 := Lib.hid (RA15.out.below hb16 RA15.out.lt)
        have RB16 := Lib.hid (RB15.out.below hb16 RB15.out.lt)
        have RC16 := Lib.hid (RC15.out.below hb16 RC15.out.lt)
        have RD16 := Lib.hid (RD15.out.below hb16 RD15.out.lt)
        have RM16 := Lib.hid (RM15.out.below hb16 RM15.out.lt)
        have HSS := Lib.hid (HSS.out.trans (hb16.mono HSS.out.size))
        clear hb16 RA15 RB15 RC15 RD15 RM15
        go_wp2_with (first | (refine wpList_load_row_g (by rfl) 32 (.tmp 8) rfl P8 (by rfl) 32 (msRow m.kind mn mc (.slice A11 n12 cp11) ver (.slice A1 ni c1) (.slice A2 no c2)) (0, 0) _ RD16.out Try.underlying32 rfl (by exact size_msg) ?_) | (refine wpList_load_row_g (by rfl) 32 (.tmp 2) rfl w.heap.size (by rfl) 32 ms (0, 0) _ RM16.out Try.underlying32 rfl (by rw [HM7.out]; exact size_msg) ?_))
        refine (C5.out _ HSS.out).mono ?_
        rintro e w17 ⟨rfl, hb17⟩
        have RA17 := Lib.hid (RA16.out.below hb17 RA16.out.lt)
        have RB17 := Lib.hid (RB16.out.below hb17 RB16.out.lt)
        have RC17 := Lib.hid (RC16.out.below hb17 RC16.out.lt)
        have RD17 := Lib.hid (RD16.out.below hb17 RD16.out.lt)
        have RM17 := Lib.hid (RM16.out.below hb17 RM16.out.lt)
        have HSS := Lib.hid (HSS.out.trans (hb17.mono HSS.out.size))
        clear hb17 RA16 RB16 RC16 RD16 RM16
        go_wp2_with fail
        go_ret
        exact ⟨rfl, HBW.out _ HSS.out⟩
end Go.Proofs.Ytanjlgkbjcienaa.M8
