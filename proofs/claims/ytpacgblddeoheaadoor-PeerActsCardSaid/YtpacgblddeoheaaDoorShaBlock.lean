/- Package sha: a block. -/
import Derived.Test.YtpacgblddeoheaaDoorShaA
import Derived.Lib.SmallJoins
import Derived.ChangeKeysEq
import Derived.Laws.Rows
namespace Go.Proofs.YtpacgblddeoheaaDoor
open Go.RowKit Go.Deep
set_option linter.unusedVariables false
set_option linter.unusedSimpArgs false
set_option maxRecDepth 100000
attribute [local go_sem ↓] Go.wp_at_zero Go.wp_at_succ

/-- the package's variables hold what its text lays -/
structure Laid (w : World) : Prop where
  hc : ∀ i, i < 64 → w.cell? ⟨1, i, none⟩ = some (.int .u32 ((Sha.consts.getD i 0).toNat : Int))
  hf : ∀ i, i < 8 → w.cell? ⟨0, i, none⟩ = some (.int .u32 ((Sha.first.list.getD i 0).toNat : Int))
  lc : 1 < w.heap.size
  lf : 0 < w.heap.size
theorem Laid.below {w w' : World} (h : Laid w) (hb : Below w.heap.size w w') : Laid w' :=
  ⟨fun i hi => (hb.cell (p := ⟨_, i, none⟩) h.lc).trans (h.hc i hi), fun i hi => (hb.cell (p := ⟨_, i, none⟩) h.lf).trans (h.hf i hi), Nat.lt_of_lt_of_le h.lc hb.size, Nat.lt_of_lt_of_le h.lf hb.size⟩
def stV (s : Sha.St) : Value := .agg #[.int .u32 (s.a.toNat : Int), .int .u32 (s.b.toNat : Int), .int .u32 (s.c.toNat : Int), .int .u32 (s.d.toNat : Int), .int .u32 (s.e.toNat : Int), .int .u32 (s.f.toNat : Int), .int .u32 (s.g.toNat : Int), .int .u32 (s.h.toNat : Int)]
theorem run_index_arr {P : Program} {t e : TypeId} {n : Nat} {cs : Array Value} {k : IntKind} {i : Nat} {v : Value} (w : World) (h : P.underlying t = some (.array n e)) (he : P.plainKey e = true) (hs : (P.info? e).map (·.size) = some 1) (hi : i < n) (hv : cs[i]? = some v) :
    (Instr.index t (.agg cs) (.int k (i : Int))).run P w = .ok v w := by
  obtain ⟨x, hx, hx1⟩ := Option.map_eq_some_iff.1 hs
  have hn : (0 : Int) ≤ (i : Int) ∧ (i : Int) < (n : Int) := by omega
  have hp := run_part_plain (P := P) (w := w) (off := i) he hv
  simp [Instr.index, run_underlying h, asIntOf, hn, hi, sizeOf, typeInfo, hx, hx1, hp]
theorem info_u8 : (Tryd.prog.info? 5).map (·.size) = some 1 := by kernel_rfl
theorem info_u32 : (Tryd.prog.info? 44).map (·.size) = some 1 := by kernel_rfl
theorem plain_u8 : Tryd.prog.plainKey 5 = true := by kernel_rfl
theorem plain_u32 : Tryd.prog.plainKey 44 = true := by kernel_rfl
theorem info_b64 : (Tryd.prog.info? 203).map (·.size) = some 64 := by kernel_rfl
theorem Laid.kp {b : Nat} {w w' : World} (h : Laid w) (hk : Kp (fun i => i = b) w w') (h1 : 1 ≠ b) (h2 : 0 ≠ b) : Laid w' :=
  ⟨fun i hi => (hk.cell (p := ⟨_, i, none⟩) h.lc h1).trans (h.hc i hi), fun i hi => (hk.cell (p := ⟨_, i, none⟩) h.lf h2).trans (h.hf i hi), Nat.lt_of_lt_of_le h.lc hk.size, Nat.lt_of_lt_of_le h.lf hk.size⟩
theorem byte_get {cs : Array Value} {b : List UInt8} (h : cs = bytesArr b) {k : Nat} (hk : k < b.length) : cs[k]? = some (.int .u8 ((b.getD k 0).toUInt32.toNat : Int)) := by
  subst h
  simp [bytesArr, byteV, hk]
theorem fill_zero (b : List UInt8) : u32Arr (Sha.fill b 0) = #[.int .u32 0, .int .u32 0, .int .u32 0, .int .u32 0, .int .u32 0, .int .u32 0, .int .u32 0, .int .u32 0, .int .u32 0, .int .u32 0, .int .u32 0, .int .u32 0, .int .u32 0, .int .u32 0, .int .u32 0, .int .u32 0] := rfl
theorem Bk.new_at (w : World) (t : TypeId) (cs : Array Value) {n : Nat} (h : n = w.heap.size) : Bk (w.alloc (.cells cs t)) n t cs := by subst h; exact Bk.new w t cs
theorem block_hg (w : World) (A C D : Obj) (cs : Array Value) (t : TypeId) : ((((w.alloc A).alloc (.cells cs t)).alloc C).alloc D).heap[w.heap.size + 1]? = some (.cells cs t (0, 0)) :=
  ((Bk.new_at (w.alloc A) t cs (by simp)).alloc C).alloc D
theorem word_any (g t : Nat) (b : List UInt8) (w : World) (ht : t < 64) (h : Bk w g 212 (u32Arr (Sha.ring b t))) :
    Calls Tryd.prog 115 #[.pointer (some ⟨g, 0, none⟩), .int .i64 (t : Int)] w fun e w' => e = .returned (.int .u32 ((Sha.Wt b t).toNat : Int)) ∧ Bk w' g 212 (u32Arr (Sha.ring b (t + 1))) ∧ Kp (fun i => i = g) w w' := by
  by_cases h16 : t < 16
  · have e : Sha.ring b (t + 1) = Sha.ring b t := by rw [Sha.ring, Sha.ringNext, if_pos h16]
    rw [e, ← Sha.ring_low b t h16]
    exact (word_low g t (Sha.ring b t) w (Sha.ring_len b t) h16 h).mono fun e w' ⟨h1, h2⟩ => ⟨h1, by subst h2; exact h, by subst h2; exact Kp.refl _ _⟩
  · rw [← Sha.ring_now b t]
    exact word_high g t (Sha.ring b t) w (Sha.ring_len b t) (by omega) ht h
/-- the state within the rounds -/
structure RoundRel (b : List UInt8) (s : Sha.St) (W0 : World) (g k : Nat) (ua ub uc ud ue uf ug uh : Value) (wr : World) : Prop where
  ha : ua = .int .u32 ((Sha.rounds s (Sha.sched b 64) k).a.toNat : Int)
  hb : ub = .int .u32 ((Sha.rounds s (Sha.sched b 64) k).b.toNat : Int)
  hc : uc = .int .u32 ((Sha.rounds s (Sha.sched b 64) k).c.toNat : Int)
  hd : ud = .int .u32 ((Sha.rounds s (Sha.sched b 64) k).d.toNat : Int)
  he : ue = .int .u32 ((Sha.rounds s (Sha.sched b 64) k).e.toNat : Int)
  hf : uf = .int .u32 ((Sha.rounds s (Sha.sched b 64) k).f.toNat : Int)
  hg : ug = .int .u32 ((Sha.rounds s (Sha.sched b 64) k).g.toNat : Int)
  hh : uh = .int .u32 ((Sha.rounds s (Sha.sched b 64) k).h.toNat : Int)
  ring : Bk wr g 212 (u32Arr (Sha.ring b k))
  kp : Kp (fun i => i = g) W0 wr
theorem rounds_next (b : List UInt8) (s : Sha.St) (k : Nat) (hk : k < 64) : Sha.rounds s (Sha.sched b 64) (k + 1) = Sha.round (Sha.rounds s (Sha.sched b 64) k) (Sha.consts.getD k 0) (Sha.Wt b k) := by
  rw [Sha.rounds, Sha.sched_get b 64 k hk]
theorem roundRel_next {b : List UInt8} {s v : Sha.St} {W0 wr : World} {g k : Nat} {kk p1 p q : UInt32} (hn : Sha.rounds s (Sha.sched b 64) (k + 1) = Sha.round v kk (Sha.Wt b k)) (hp1 : p1 = v.h + Sha.Sig1 v.e)
    (hp : p = p1 + ((v.g ^^^ (v.e &&& (v.f ^^^ v.g))) + kk + Sha.Wt b k)) (hq : q = Sha.Sig0 v.a + ((v.a &&& v.b) ||| (v.c &&& (v.a ||| v.b)))) (hr : Bk wr g 212 (u32Arr (Sha.ring b (k + 1)))) (hk : Kp (fun i => i = g) W0 wr) :
    RoundRel b s W0 g (k + 1) (.int .u32 ((p + q).toNat : Int)) (.int .u32 (v.a.toNat : Int)) (.int .u32 (v.b.toNat : Int)) (.int .u32 (v.c.toNat : Int)) (.int .u32 ((v.d + p).toNat : Int)) (.int .u32 (v.e.toNat : Int)) (.int .u32 (v.f.toNat : Int)) (.int .u32 (v.g.toNat : Int)) wr := by
  subst hp1
  have h := hn.trans (Sha.round_other v kk (Sha.Wt b k))
  rw [← hp, ← hq] at h
  exact ⟨by rw [h], by rw [h], by rw [h], by rw [h], by rw [h], by rw [h], by rw [h], by rw [h], hr, hk⟩
theorem set8 {w : World} {g t : Nat} {y0 y1 y2 y3 y4 y5 y6 y7 : Value} (h : Bk w g t #[y0, y1, y2, y3, y4, y5, y6, y7]) (x0 x1 x2 x3 x4 x5 x6 x7 : Value) :
    Bk ((((((((w.setCell ⟨g, 0, none⟩ x0).setCell ⟨g, 1, none⟩ x1).setCell ⟨g, 2, none⟩ x2).setCell ⟨g, 3, none⟩ x3).setCell ⟨g, 4, none⟩ x4).setCell ⟨g, 5, none⟩ x5).setCell ⟨g, 6, none⟩ x6).setCell ⟨g, 7, none⟩ x7) g t #[x0, x1, x2, x3, x4, x5, x6, x7] := by
  have := (((((((h.set 0 x0).set 1 x1).set 2 x2).set 3 x3).set 4 x4).set 5 x5).set 6 x6).set 7 x7
  simpa using this
theorem below_set8 {B g : Nat} {a w : World} (h : Below B a w) (hB : B ≤ g) (x0 x1 x2 x3 x4 x5 x6 x7 : Value) :
    Below B a ((((((((w.setCell ⟨g, 0, none⟩ x0).setCell ⟨g, 1, none⟩ x1).setCell ⟨g, 2, none⟩ x2).setCell ⟨g, 3, none⟩ x3).setCell ⟨g, 4, none⟩ x4).setCell ⟨g, 5, none⟩ x5).setCell ⟨g, 6, none⟩ x6).setCell ⟨g, 7, none⟩ x7) :=
  (((((((h.setCell hB _).setCell hB _).setCell hB _).setCell hB _).setCell hB _).setCell hB _).setCell hB _).setCell hB _
theorem info_st : (Tryd.prog.info? 201).map (·.size) = some 8 := by kernel_rfl
/-- the numbers of the state as it stands within a block -/
structure RingRel (b : List UInt8) (W0 : World) (g k : Nat) (wr : World) : Prop where
  ring : Bk wr g 212 (u32Arr (Sha.fill b k))
  kp : Kp (fun i => i = g) W0 wr
set_option maxHeartbeats 1000000 in
theorem block_any (s : Sha.St) (b : List UInt8) (hb : b.length = 64) (w : World) (hl : Laid w) :
    Calls Tryd.prog 113 #[stV s, .agg (bytesArr b)] w fun e w' => e = .returned (stV (Sha.block s b)) ∧ Below w.heap.size w w' := by
  unfold stV
  obtain ⟨cs, hcs⟩ : ∃ cs, cs = bytesArr b := ⟨_, rfl⟩
  have hsz : cs.size = 64 := by rw [hcs]; simp [bytesArr, hb]
  rw [← hcs]
  have HCS := Lib.hid hcs
  have HSZ := Lib.hid hsz
  have HL := Lib.hid hl
  have HB := Lib.hid hb
  clear hcs hsz hl hb
  go_enter Tryd.func113, Tryd.ntmps113
  go_wp2_with (refine wpList_load_row rfl 203 (.tmp 3) rfl (w.heap.size + 1) rfl 203 cs (0, 0) (.array 64 5) ?hg Tryd.underlying203 rfl ?hi ?_)
  case hg => exact block_hg w _ _ _ cs _
  case hi => rw [HSZ.out]; kernel_rfl
  rw [← fill_zero b]
  obtain ⟨W0, hW0⟩ : ∃ W0 : World, W0 = (((w.alloc (.cells #[.int .u32 (s.a.toNat : Int), .int .u32 (s.b.toNat : Int), .int .u32 (s.c.toNat : Int), .int .u32 (s.d.toNat : Int), .int .u32 (s.e.toNat : Int), .int .u32 (s.f.toNat : Int), .int .u32 (s.g.toNat : Int), .int .u32 (s.h.toNat : Int)] 201)).alloc (.cells cs 203)).alloc (.cells #[.int .u32 0, .int .u32 0, .int .u32 0, .int .u32 0, .int .u32 0, .int .u32 0, .int .u32 0, .int .u32 0] 201)).alloc (.cells (u32Arr (Sha.fill b 0)) 212) := ⟨_, rfl⟩
  rw [← hW0]
  go_loopw [20] (fun i wr => ∃ k : Nat, k ≤ 64 ∧ i = .int .i64 (k : Int) ∧ RingRel b W0 (w.heap.size + 1 + 1 + 1) k wr) (fun i _ => 64 - (intOf i).toNat)
  case atStart => exact ⟨0, by omega, rfl, by rw [hW0]; exact Bk.new_at _ _ _ (by simp), Kp.refl _ _⟩
  case round =>
    obtain ⟨k, hk, rfl, hrr⟩ := hrel
    by_cases hlt : k < 64
    · have ix := fun W => run_index_arr (P := Tryd.prog) (t := 203) (k := .i64) W Tryd.underlying203 plain_u8 info_u8 hlt (byte_get HCS.out (k := k) (by rw [HB.out]; omega))
      have cw := hrr.ring.u32 (i := k / 4) (by rw [Sha.fill_len]; omega)
      have fw : wr.frozen? ⟨w.heap.size + 1 + 1 + 1, k / 4, none⟩ = false := hrr.ring.frozen _
      have HN := Lib.hid (hrr.ring.setU32 (k / 4) ((Sha.fill b k).getD (k / 4) 0 <<< 8 ||| (b.getD k 0).toUInt32))
      have HF := Lib.hid (show Sha.fill b (k + 1) = (Sha.fill b k).set (k / 4) ((Sha.fill b k).getD (k / 4) 0 <<< 8 ||| (b.getD k 0).toUInt32) from rfl)
      have HK := Lib.hid (hrr.kp)
      clear hrr
      generalize (b.getD k 0).toUInt32 = c at *
      generalize (Sha.fill b k).getD (k / 4) 0 = x at *
      have hc := u32_lt c
      have hx := u32_lt x
      go_wp2
      rw [u_shl8, u_or]
      go_roundw
      case rel =>
        refine ⟨k + 1, by omega, by go_num, by rw [HF.out]; exact HN.out, Kp.setCell (S := fun i => i = w.heap.size + 1 + 1 + 1) HK.out (fun _ => rfl) _⟩
      case measure => simp [intOf]; omega
    · obtain rfl : k = 64 := by omega
      have hz0 : W0.heap.size = w.heap.size + 1 + 1 + 1 + 1 := by rw [hW0]; simp
      have hring : Bk wr (w.heap.size + 1 + 1 + 1) 212 (u32Arr (Sha.ring b 0)) := hrr.ring
      have hkp := hrr.kp
      have kS : Bk W0 w.heap.size 201 #[.int .u32 (s.a.toNat : Int), .int .u32 (s.b.toNat : Int), .int .u32 (s.c.toNat : Int), .int .u32 (s.d.toNat : Int), .int .u32 (s.e.toNat : Int), .int .u32 (s.f.toNat : Int), .int .u32 (s.g.toNat : Int), .int .u32 (s.h.toNat : Int)] := by
        rw [hW0]; exact (((Bk.new w _ _).alloc _).alloc _).alloc _
      have kR : Bk W0 (w.heap.size + 1 + 1) 201 #[.int .u32 0, .int .u32 0, .int .u32 0, .int .u32 0, .int .u32 0, .int .u32 0, .int .u32 0, .int .u32 0] := by
        rw [hW0]; exact (Bk.new_at ((w.alloc _).alloc _) _ _ (by simp)).alloc _
      have hB0 : Below w.heap.size w W0 := by rw [hW0]; exact (Joins.below_alloc2 _ _ _).alloc (by simp; omega) _ |>.alloc (by simp; omega) _
      have HL0 := Lib.hid (HL.out.below hB0)
      have H1 := Lib.hid (show 1 ≠ w.heap.size + 1 + 1 + 1 from by have := HL.out.lc; omega)
      have H2 := Lib.hid (show 0 ≠ w.heap.size + 1 + 1 + 1 from by have := HL.out.lf; omega)
      have HKS := Lib.hid kS
      have HKR := Lib.hid kR
      have HB0 := Lib.hid hB0
      have kS' := kS.kp hkp (by omega)
      have s0 := kS'.cell 0
      have s1 := kS'.cell 1
      have s2 := kS'.cell 2
      have s3 := kS'.cell 3
      have s4 := kS'.cell 4
      have s5 := kS'.cell 5
      have s6 := kS'.cell 6
      have s7 := kS'.cell 7
      simp only [List.getElem?_toArray, List.getElem?_cons_zero, List.getElem?_cons_succ] at s0 s1 s2 s3 s4 s5 s6 s7
      clear hrr kS kR hB0 kS' hW0 HL hlt hk
      have HRING := Lib.hid hring
      have HKP := Lib.hid hkp
      clear hring hkp
      go_wp2_with fail
      go_quiet (fail)
      go_wp2_with fail
      obtain ⟨wq, hwq⟩ : ∃ wq, wq = wr.drewN nq := ⟨_, rfl⟩
      rw [← hwq]
      go_loopw [8, 9, 10, 11, 12, 13, 14, 15, 52] (fun a b' c d e f g h i wr => ∃ k : Nat, k ≤ 64 ∧ i = .int .i64 (k : Int) ∧ RoundRel b s W0 (w.heap.size + 1 + 1 + 1) k a b' c d e f g h wr) (fun _ _ _ _ _ _ _ _ i _ => 64 - (intOf i).toNat)
      case atStart => exact ⟨0, by omega, rfl, rfl, rfl, rfl, rfl, rfl, rfl, rfl, rfl, by rw [hwq]; exact HRING.out, by rw [hwq]; exact HKP.out.drewN _⟩
      case round =>
        clear s0 s1 s2 s3 s4 s5 s6 s7 hwq HRING HKP
        obtain ⟨k, hk, rfl, ⟨rfl, rfl, rfl, rfl, rfl, rfl, rfl, rfl, hring, hkp⟩⟩ := hrel
        by_cases hlt : k < 64
        · have HN := Lib.hid (rounds_next b s k hlt)
          have kc := (HL0.out.kp hkp H1.out H2.out).hc k hlt
          have HLT := Lib.hid ((HL0.out.kp hkp H1.out H2.out).lc)
          generalize Sha.rounds s (Sha.sched b 64) k = v at *
          generalize Sha.consts.getD k 0 = kk at *
          have HR : ∀ n, Hid (Bk (World.drewN _ n) (w.heap.size + 1 + 1 + 1) 212 (u32Arr (Sha.ring b k))) := fun n => Lib.hid (hring.drewN n)
          have HKP := Lib.hid hkp
          clear hring hkp
          go_wp2_with fail
          refine (rot6 _ _).mono ?_
          rintro e w' ⟨rfl, rfl⟩
          go_wp2_with fail
          refine (rot11 _ _).mono ?_
          rintro e w' ⟨rfl, rfl⟩
          go_wp2_with fail
          refine (rot25 _ _).mono ?_
          rintro e w' ⟨rfl, rfl⟩
          go_wp2_with fail
          simp only [u_xor, u_add]
          rw [show v.h + (Sha.rotr v.e 6 ^^^ Sha.rotr v.e 11 ^^^ Sha.rotr v.e 25) = v.h + Sha.Sig1 v.e from rfl]
          obtain ⟨p1, hp1⟩ : ∃ p1, p1 = v.h + Sha.Sig1 v.e := ⟨_, rfl⟩
          rw [← hp1]
          have HP1 := Lib.hid hp1
          clear hp1
          have bk1 : (0 : Int) ≤ (k : Int) := by omega
          have bk2 : (k : Int) < 64 := by omega
          go_region_held3 (fun w' => w'.cell? ⟨1, k, none⟩ = some (.int .u32 (kk.toNat : Int))) (first | go_keep | exact (hkp.cell (p := ⟨1, k, none⟩) HLT.out H1.out).trans kc) ((go_at_call 115; refine (word_any _ _ b _ hlt (HR _).out).mono ?_; rintro e w' ⟨rfl, hring, hkp⟩))
          simp only [u_xor, u_and, u_addw]
          obtain ⟨p, hp⟩ : ∃ p, p = p1 + ((v.g ^^^ (v.e &&& (v.f ^^^ v.g))) + kk + Sha.Wt b k) := ⟨_, rfl⟩
          rw [← hp]
          have HP := Lib.hid hp
          have HRN := Lib.hid hring
          have HKN := Lib.hid (HKP.out.trans (((Kp.refl _ _).drewN _).trans hkp))
          clear hp hring hkp kc HR bk1 bk2
          go_wp2_with fail
          refine (rot2 _ _).mono ?_
          rintro e w' ⟨rfl, rfl⟩
          go_wp2_with fail
          refine (rot13 _ _).mono ?_
          rintro e w' ⟨rfl, rfl⟩
          go_wp2_with fail
          refine (rot22 _ _).mono ?_
          rintro e w' ⟨rfl, rfl⟩
          go_wp2_with fail
          go_roundw
          case rel =>
            simp only [u_xor, u_and, u_or, u_add]
            (repeat apply Exists.intro)
            exact ⟨⟨k + 1, by omega, by go_num, roundRel_next HN.out HP1.out HP.out rfl HRN.out HKN.out⟩, rfl⟩
          case measure => simp [intOf]; omega
        · obtain rfl : k = 64 := by omega
          have kS' := HKS.out.kp hkp (by omega)
          have kR' := HKR.out.kp hkp (by omega)
          have s0 := kS'.cell 0
          have s1 := kS'.cell 1
          have s2 := kS'.cell 2
          have s3 := kS'.cell 3
          have s4 := kS'.cell 4
          have s5 := kS'.cell 5
          have s6 := kS'.cell 6
          have s7 := kS'.cell 7
          simp only [List.getElem?_toArray, List.getElem?_cons_zero, List.getElem?_cons_succ] at s0 s1 s2 s3 s4 s5 s6 s7
          have HE := Lib.hid (show Sha.block s b = s.add (Sha.rounds s (Sha.sched b 64) 64) from rfl)
          generalize Sha.rounds s (Sha.sched b 64) 64 = v at *
          have HB1 := Lib.hid (Kp.from_elder HB0.out hkp (fun i hi (e : i = _) => by omega))
          have HRES := Lib.hid kR'
          have hset := fun (x0 x1 x2 x3 x4 x5 x6 x7 : Value) => Lib.hid (set8 kR' x0 x1 x2 x3 x4 x5 x6 x7)
          have fr := kR'.frozen
          have r0 := kR'.cell 0
          have r1 := kR'.cell 1
          have r2 := kR'.cell 2
          have r3 := kR'.cell 3
          have r4 := kR'.cell 4
          have r5 := kR'.cell 5
          have r6 := kR'.cell 6
          have r7 := kR'.cell 7
          simp only [List.getElem?_toArray, List.getElem?_cons_zero, List.getElem?_cons_succ] at r0 r1 r2 r3 r4 r5 r6 r7
          clear hring hkp kS' kR' hlt hk
          go_wp2_with fail
          simp only [u_add]
          refine bodyPost_ret (results_cell_row rfl _ _ (w.heap.size + 1 + 1) 201 _ (0, 0) _ rfl (hset _ _ _ _ _ _ _ _).out Tryd.underlying201 rfl info_st) rfl ⟨?_, ?_⟩
          · rw [HE.out]; rfl
          · exact below_set8 HB1.out (by omega) _ _ _ _ _ _ _ _
end Go.Proofs.YtpacgblddeoheaaDoor
