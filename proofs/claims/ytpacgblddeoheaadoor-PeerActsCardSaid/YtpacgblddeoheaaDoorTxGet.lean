/- Package tx: a transaction is read. -/
import Derived.Test.YtpacgblddeoheaaDoorTxBR
import Derived.Test.YtpacgblddeoheaaDoorTxCT
import Derived.Laws.ResultCell
namespace Go.Proofs.YtpacgblddeoheaaDoor.T7
open Go.RowKit Go.Deep
set_option linter.unusedVariables false
set_option linter.unusedSimpArgs false
set_option maxRecDepth 100000
attribute [local go_sem ↓] Go.wp_at_zero Go.wp_at_succ

/-- what Get answers: the transaction lies in memory that the call has made -/
def GetOut7 (w w' : World) (r : Txs.Tx × Nat × Int) (e : Ending) : Prop :=
  ∃ A c A' c', e = .returned (.tuple #[txV r.1 A c A' c', .int .i64 (r.2.1 : Int), .int .i64 r.2.2]) ∧ TxNew w.heap.size w' r.1 A c A' c' ∧ Below w.heap.size w w'
/-- what holds while inputs are read -/
structure InL (w : World) (g R T B base : Nat) (A : Option Addr) (n c : Nat) (b : List UInt8) (v : Nat) (s : Txs.Cur) (vi : Value) (acc : List Txs.In) (wr : World) : Prop where
  cur : IsCur wr g B A n c b s
  res : Bk wr R 49 (txCells 0 (.slice none 0 0) (.slice none 0 0))
  tx : Bk wr T 49 (txCells v vi (.slice none 0 0))
  row : RowI wr base vi acc
  below : Below w.heap.size w wr
  size : base ≤ wr.heap.size
def fin7 (v : Nat) (i : List Txs.In) (o : List Txs.Out × Txs.Cur) : Txs.Tx × Nat × Int := if o.2.e ≠ 0 then (Txs.none, 0, o.2.e) else (⟨v, i, o.1⟩, o.2.p, 0)
theorem cur_err {w : World} {g B n c : Nat} {A : Option Addr} {b : List UInt8} {s : Txs.Cur} (h : IsCur w g B A n c b s) : w.cell? ⟨g, 2, none⟩ = some (.int .i64 s.e) := (h.bk.cell 2).trans rfl
theorem cur_at {w : World} {g B n c : Nat} {A : Option Addr} {b : List UInt8} {s : Txs.Cur} (h : IsCur w g B A n c b s) : w.cell? ⟨g, 1, none⟩ = some (.int .i64 (s.p : Int)) := (h.bk.cell 1).trans rfl
theorem ins_stop {b : List UInt8} {k : Nat} {s : Txs.Cur} {acc : List Txs.In} (h : k = 0 ∨ s.e ≠ 0) : Txs.Cur.ins b k s acc = (acc, s) := by
  rcases h with rfl | h
  · rfl
  · exact Txs.Cur.ins_err h k acc
theorem outs_stop {b : List UInt8} {k : Nat} {s : Txs.Cur} {acc : List Txs.Out} (h : k = 0 ∨ s.e ≠ 0) : Txs.Cur.outs b k s acc = (acc, s) := by
  rcases h with rfl | h
  · rfl
  · exact Txs.Cur.outs_err h k acc
theorem ins_more {b : List UInt8} {k : Nat} {s : Txs.Cur} {acc : List Txs.In} (h : s.e = 0) : Txs.Cur.ins b (k + 1) s acc = Txs.Cur.ins b k (s.inp b).2 (acc ++ [(s.inp b).1]) := by
  rw [Txs.Cur.ins, if_neg (by simp [h])]
theorem outs_more {b : List UInt8} {k : Nat} {s : Txs.Cur} {acc : List Txs.Out} (h : s.e = 0) : Txs.Cur.outs b (k + 1) s acc = Txs.Cur.outs b k (s.out b).2 (acc ++ [(s.out b).1]) := by
  rw [Txs.Cur.outs, if_neg (by simp [h])]
theorem live_take {b : List UInt8} {n : Nat} {s : Txs.Cur} (k : Nat) (h : 0 < n ∨ s.e ≠ 0) : 0 < n ∨ (s.take b k).2.e ≠ 0 := by
  rcases h with h | h
  · exact .inl h
  · right; rw [Txs.Cur.take_err h]; exact h
theorem live_count {b : List UInt8} {n : Nat} {s : Txs.Cur} (k : Nat) (h : 0 < n ∨ s.e ≠ 0) : 0 < n ∨ (s.count b k).2.e ≠ 0 := by
  rcases h with h | h
  · exact .inl h
  · right; rw [Txs.Cur.count_err h]; exact h
/-- what holds while outputs are read: since world w5 only the cursor and the transaction have changed -/
structure OutL (g T B base2 : Nat) (A : Option Addr) (n c : Nat) (b : List UInt8) (v : Nat) (s : Txs.Cur) (vi vo : Value) (acc : List Txs.Out) (w5 wr : World) : Prop where
  cur : IsCur wr g B A n c b s
  tx : Bk wr T 49 (txCells v vi vo)
  row : RowO wr base2 vo acc
  kp : Kp (fun i => i = g ∨ i = T) w5 wr
  size : base2 ≤ wr.heap.size
set_option maxHeartbeats 8000000 in
theorem get_walk (A : Option Addr) (n c B : Nat) (b : List UInt8) (w : World) (hl : b.length = n) (hc : n ≤ c) (hm : c ≤ maxLen) (hn : n ≤ 140737488351232) (hat : BytesAt w B A b) (hB : B ≤ w.heap.size) :
    Calls Tryd.prog 90 #[.slice A n c] w fun e w' => GetOut7 w w' (Txs.getP b) e := by
  obtain ⟨ii, hi, hz0, hz1, hz2⟩ := info_parts in_info
  have Ii := Lib.hid hi
  have Iz := Lib.hid hz0
  have Iz1 := Lib.hid hz1
  have Iz2 := Lib.hid hz2
  clear hi hz0 hz1 hz2
  obtain ⟨io, hi, hz0, hz1, hz2⟩ := info_parts out_info
  have Oi := Lib.hid hi
  have Oz := Lib.hid hz0
  have Oz1 := Lib.hid hz1
  have Oz2 := Lib.hid hz2
  clear hi hz0 hz1 hz2
  obtain ⟨ib, hi, hz0, hz1, hz2⟩ := info_parts byte_info
  have Bi := Lib.hid hi
  have Bz := Lib.hid hz0
  have Bz1 := Lib.hid hz1
  have Bz2 := Lib.hid hz2
  clear hi hz0 hz1 hz2
  obtain ⟨w2, hw2⟩ : ∃ w2, w2 = (w.alloc (.cells (txCells 0 (.slice none 0 0) (.slice none 0 0)) 49)).alloc (.cells (curArr A n c ⟨0, 0⟩) 192) := ⟨_, rfl⟩
  have hw2' : w2 = (w.alloc (.cells #[.int .u32 0, .slice none 0 0, .slice none 0 0] 49)).alloc (.cells #[.slice A n c, .int .i64 0, .int .i64 0] 192) := hw2
  have HW := Lib.hid (show Below w.heap.size w w2 by rw [hw2]; exact Joins.below_alloc2 _ _ _)
  have HZ := Lib.hid (show w2.heap.size = w.heap.size + 2 by rw [hw2]; simp)
  have HR := Lib.hid (show Bk w2 w.heap.size 49 (txCells 0 (.slice none 0 0) (.slice none 0 0)) by rw [hw2]; exact (Bk.new _ _ _).alloc _)
  have HC := Lib.hid (show Bk w2 (w.heap.size + 1) 192 (curArr A n c ⟨0, 0⟩) by
    rw [hw2]
    have := Bk.new (w.alloc (.cells (txCells 0 (.slice none 0 0) (.slice none 0 0)) 49)) 192 (curArr A n c ⟨0, 0⟩)
    simpa using this)
  have ok : CurOk A n c (w.heap.size + 1) B b := ⟨hl, hc, hm, hn, by omega⟩
  have HOK := Lib.hid ok
  have HCU := Lib.hid (show IsCur w2 (w.heap.size + 1) B A n c b ⟨0, 0⟩ from ⟨HC.out, At.below hat (HW.out.mono hB), Nat.zero_le _⟩)
  clear hw2 hat hl hm ok
  go_enter Tryd.func90, Tryd.ntmps90
  go_wp2_with fail
  rw [← hw2']
  clear hw2'
  have HN1 := Lib.hid (number_any HOK.out ⟨0, 0⟩ 4 (by omega) w2 HCU.out)
  have hlen := Txs.Cur.take_len b ⟨0, 0⟩ 4
  have hlive1 : 0 < n ∨ (Txs.Cur.take b ⟨0, 0⟩ 4).2.e ≠ 0 := by
    unfold Txs.Cur.take
    rw [if_neg (by simp)]
    split
    · right; simp
    · left; have := HOK.out.len; simp at *; omega
  have hval := Oct.val_lt (Txs.Cur.take b ⟨0, 0⟩ 4).1
  have HGP : Hid (Txs.getP b = fin7 (Oct.val (Txs.Cur.take b ⟨0, 0⟩ 4).1) (Txs.Cur.ins b ((Txs.Cur.take b ⟨0, 0⟩ 4).2.count b 8).1 ((Txs.Cur.take b ⟨0, 0⟩ 4).2.count b 8).2 []).1
    (Txs.Cur.outs b ((Txs.Cur.ins b ((Txs.Cur.take b ⟨0, 0⟩ 4).2.count b 8).1 ((Txs.Cur.take b ⟨0, 0⟩ 4).2.count b 8).2 []).2.count b 8).1 ((Txs.Cur.ins b ((Txs.Cur.take b ⟨0, 0⟩ 4).2.count b 8).1 ((Txs.Cur.take b ⟨0, 0⟩ 4).2.count b 8).2 []).2.count b 8).2 [])) := Lib.hid rfl
  generalize Txs.Cur.take b ⟨0, 0⟩ 4 = r1 at *
  obtain ⟨l1, s1⟩ := r1
  simp only at HN1 hlen hlive1 hval HGP
  have hv1 : Oct.val l1 < 4294967296 := by
    rcases hlen with h | h
    · rw [h] at hval; have : (256 : Nat) ^ 0 = 1 := rfl; omega
    · rw [h] at hval; exact hval
  have HV1 := Lib.hid hv1
  generalize Oct.val l1 = ver at *
  have hv1' : (ver : Int) ≤ 4294967295 := by omega
  clear hlen hval hv1
  refine HN1.out.mono ?_
  rintro e w3 ⟨rfl, hcu3, hk3⟩
  have HCU3 := Lib.hid hcu3
  have HK3 := Lib.hid hk3
  have hz3 := hk3.size
  rw [HZ.out] at hz3
  clear hcu3 hk3 HN1
  go_wp2_with fail
  obtain ⟨w4, hw4⟩ : ∃ w4, w4 = w3.alloc (.cells (txCells ver (.slice none 0 0) (.slice none 0 0)) 49) := ⟨_, rfl⟩
  have hw4' : w4 = w3.alloc (.cells #[.int .u32 (ver : Int), .slice none 0 0, .slice none 0 0] 49) := hw4
  have HT4 := Lib.hid (show Bk w4 w3.heap.size 49 (txCells ver (.slice none 0 0) (.slice none 0 0)) by rw [hw4]; exact Bk.new _ _ _)
  have HK4 := Lib.hid (show Kp (fun i => i = w.heap.size + 1) w2 w4 by rw [hw4]; exact HK3.out.alloc _)
  have HZ4 := Lib.hid (show w4.heap.size = w3.heap.size + 1 by rw [hw4]; simp)
  have HCU4 := Lib.hid (show IsCur w4 (w.heap.size + 1) B A n c b s1 by rw [hw4]; exact HCU3.out.kp (S := fun _ => False) ((Kp.refl _ _).alloc _) (fun h => h) (fun _ _ h => h) (by omega))
  have HR4 := Lib.hid (HR.out.kp HK4.out (by omega))
  rw [← hw4']
  clear hw4 hw4' HCU3
  have HCN := Lib.hid (count_any HOK.out s1 8 (by omega) hlive1 w4 HCU4.out)
  have hlive2 := live_count (b := b) 8 hlive1
  have hcle := Txs.Cur.count_le (b := b) (s := s1) (m := 8) (by omega) (by rw [HOK.out.len]; exact HCU4.out.le)
  generalize s1.count b 8 = r2 at *
  obtain ⟨k1, s2⟩ := r2
  simp only at HCN hlive2 hcle HGP
  refine HCN.out.mono ?_
  rintro e w5 ⟨rfl, hcu5, hk5⟩
  have HK5 := Lib.hid (HK4.out.trans hk5)
  have hk18 := hcle.2
  have hz5 := hk5.size
  rw [HZ4.out] at hz5
  have HINV := Lib.hid (show InL w (w.heap.size + 1) w.heap.size w3.heap.size B w4.heap.size A n c b ver s2 (.slice none 0 0) [] w5 from
    ⟨hcu5, HR4.out.kp hk5 (by omega), HT4.out.kp hk5 (by omega), RowI.nil _ _, Kp.from_elder HW.out HK5.out (fun i hi => by omega), by rw [HZ4.out]; omega⟩)
  obtain ⟨ri, hri⟩ : ∃ ri, ri = Txs.Cur.ins b k1 s2 [] := ⟨_, rfl⟩
  rw [← hri] at HGP
  have HRI := Lib.hid hri.symm
  have hlt1 : w.heap.size + 1 < w4.heap.size := by rw [HZ4.out]; omega
  have hlt2 : w3.heap.size < w4.heap.size := by rw [HZ4.out]; omega
  have hT3 : w.heap.size + 2 ≤ w3.heap.size := hz3
  generalize w4.heap.size = base at *
  generalize w3.heap.size = T at *
  clear hri hk5 hcu5 HCN HR4 HT4 HK4 HCU4 HZ4 HK5 hz5 HCU HC HR hcle
  go_wp2_with fail
  go_loopw [7] (fun kv wr => ∃ (k : Nat) (s : Txs.Cur) (vi : Value) (acc : List Txs.In), kv = .int .i64 (k : Int) ∧ k + acc.length ≤ 8 ∧ Hid (InL w (w.heap.size + 1) w.heap.size T B base A n c b ver s vi acc wr) ∧ Hid (Txs.Cur.ins b k s acc = ri) ∧ Hid (0 < n ∨ s.e ≠ 0)) (fun kv _ => (intOf kv).toNat)
  case atStart => exact ⟨k1, s2, _, [], rfl, hk18, HINV, HRI, Lib.hid hlive2⟩
  case round =>
    obtain ⟨k, s, vi, acc, rfl, hka, hinv, hri, hlive⟩ := hrel
    by_cases hgo : 0 < k ∧ s.e = 0
    · obtain ⟨hk0, hse⟩ := hgo
      have hk0' : (0 : Int) < (k : Int) := by omega
      have c2 : wr.cell? ⟨w.heap.size + 1, 2, none⟩ = some (.int .i64 0) := by rw [← hse]; exact cur_err hinv.out.cur
      have hws := hinv.out.size
      obtain ⟨wa, hwa⟩ : ∃ wa, wa = wr.alloc (.cells (inCells ⟨List.replicate 32 0, 0, []⟩ (.slice none 0 0)).toArray 97) := ⟨_, rfl⟩
      have HXA := Lib.hid (show Bk wa wr.heap.size 97 (inCells ⟨List.replicate 32 0, 0, []⟩ (.slice none 0 0)).toArray by rw [hwa]; exact Bk.new _ _ _)
      have HKA := Lib.hid (show Kp (fun i => i = w.heap.size + 1) wr wa by rw [hwa]; exact (Kp.refl _ _).alloc _)
      have HZA := Lib.hid (show wa.heap.size = wr.heap.size + 1 by rw [hwa]; simp)
      have HCA := Lib.hid (show IsCur wa (w.heap.size + 1) B A n c b s by rw [hwa]; exact hinv.out.cur.kp (S := fun _ => False) ((Kp.refl _ _).alloc _) (fun h => h) (fun _ _ h => h) (by omega))
      have hZI := zero_in
      obtain ⟨zs, hzs⟩ : ∃ zs, zs = (inCells ⟨List.replicate 32 0, 0, []⟩ (.slice none 0 0)).toArray := ⟨_, rfl⟩
      rw [← hzs] at hZI hwa
      have HZI := Lib.hid hZI
      have HHS := Lib.hid (hash_any HOK.out s wa HCA.out)
      have hl32 := Txs.Cur.take_len b s 32
      have HX1 := Lib.hid (show Txs.Cur.inp b s = (⟨Txs.fill32 (s.take b 32).1, Oct.val ((s.take b 32).2.take b 4).1, ((((s.take b 32).2.take b 4).2.count b 64).2.take b (((s.take b 32).2.take b 4).2.count b 64).1).1⟩,
    ((((s.take b 32).2.take b 4).2.count b 64).2.take b (((s.take b 32).2.take b 4).2.count b 64).1).2) from rfl)
      have hlive' := live_take (b := b) 32 hlive.out
      generalize s.take b 32 = q1 at *
      obtain ⟨hl, sa⟩ := q1
      simp only at HHS hl32 HX1 hlive'
      have hfl := Txs.fill32_len (l := hl) (by omega)
      generalize Txs.fill32 hl = hb at *
      have HFL := Lib.hid hfl
      clear hZI hzs hfl hl32
      go_wp2_with (refine wpList_allocOf rfl 97 rfl zs HZI.out ?_)
      rw [← hwa]
      clear hwa
      refine HHS.out.mono ?_
      rintro e wb ⟨rfl, hcb, hkb⟩
      have HXB := Lib.hid (HXA.out.kp hkb (by omega))
      have HKB := Lib.hid (HKA.out.trans hkb)
      have HCB := Lib.hid hcb
      have hzb := hkb.size
      rw [HZA.out] at hzb
      obtain ⟨ca, hca⟩ : ∃ ca, ca = bytesArr hb := ⟨_, rfl⟩
      rw [← hca]
      have HTH := Lib.hid (show wb.there wr.heap.size 0 ca.size from there_of_bk HXB.out 0 _ (by rw [hca]; simp [bytesArr, HFL.out, inCells]))
      have HS1 := Lib.hid (show ca.size = 32 by rw [hca]; simp [bytesArr, HFL.out])
      have HO1 := Lib.hid (show ca.all (·.oneCell') = true by rw [hca]; exact all_oneCell_toArray (oneCell_bytes _))
      obtain ⟨wc, hwc⟩ : ∃ wc, wc = wb.setCells wr.heap.size 0 ca.toList := ⟨_, rfl⟩
      have hcl : ca.toList = hb.map byteV := by rw [hca]; simp [bytesArr]
      have HXC := Lib.hid (show Bk wc wr.heap.size 97 (inCells ⟨hb, 0, []⟩ (.slice none 0 0)).toArray by rw [hwc, hcl]; exact in_set_hash HXB.out HFL.out)
      have HKBC := Lib.hid (show Kp (fun i => i = wr.heap.size) wb wc by rw [hwc]; exact kp_cells1 _ _ _ _)
      have HCC := Lib.hid (HCB.out.kp HKBC.out (by omega) (by intro j hj; omega) (by omega))
      have HKC := Lib.hid (HKB.out.trans_of HKBC.out (fun i hi e => by omega))
      have hzc := HKBC.out.size
      clear hcb hkb hca hcl HXA HXB
      go_wp2_with (refine wpList_store_mid rfl 93 (.tmp 34) (.tmp 32) rfl wr.heap.size 0 ca (by rfl) (by rfl) HTH.out (by rw [HS1.out]; exact size_hash) HO1.out ?_)
      rw [← hwc]
      clear hwc
      have HNB := Lib.hid (number_any HOK.out sa 4 (by omega) wc HCC.out)
      have hl4 := Txs.Cur.take_len b sa 4
      have hv4 := Oct.val_lt (sa.take b 4).1
      have hliveb := live_take (b := b) 4 hlive'
      generalize sa.take b 4 = q2 at *
      obtain ⟨nl, sb⟩ := q2
      simp only at HNB hl4 hv4 HX1 hliveb
      have hv4' : Oct.val nl < 4294967296 := by
        rcases hl4 with h | h
        · rw [h] at hv4; have : (256 : Nat) ^ 0 = 1 := rfl; omega
        · rw [h] at hv4; exact hv4
      generalize Oct.val nl = nv at *
      have hv5 : (nv : Int) ≤ 4294967295 := by omega
      clear hl4 hv4
      refine HNB.out.mono ?_
      rintro e wd ⟨rfl, hcd, hkd⟩
      have HXD := Lib.hid (HXC.out.kp hkd (by omega))
      have HCD := Lib.hid hcd
      have HKD := Lib.hid (HKC.out.trans hkd)
      have hzd := hkd.size
      have d32 := in_n HXD.out ⟨HFL.out, by show 0 < 4294967296; omega⟩
      have f32 := HXD.out.frozen 32
      clear hcd hkd HNB HXC
      go_wp2_with fail
      obtain ⟨we, hwe⟩ : ∃ we, we = wd.setCell ⟨wr.heap.size, 32, none⟩ (.int .u32 (nv : Int)) := ⟨_, rfl⟩
      have HXE := Lib.hid (show Bk we wr.heap.size 97 (inCells ⟨hb, nv, []⟩ (.slice none 0 0)).toArray by rw [hwe]; exact in_set_n HXD.out HFL.out nv)
      have HKDE := Lib.hid (show Kp (fun i => i = wr.heap.size) wd we by rw [hwe]; exact kp_cell1 _ _ _ _)
      have HCE := Lib.hid (HCD.out.kp HKDE.out (by omega) (by intro j hj; omega) (by omega))
      have HKE := Lib.hid (HKD.out.trans_of HKDE.out (fun i hi e => by omega))
      have hze := HKDE.out.size
      rw [← hwe]
      clear hwe d32 f32 HXD
      have HCN := Lib.hid (count_any HOK.out sb 64 (by omega) hliveb we HCE.out)
      have hcle := (Txs.Cur.count_le (b := b) (s := sb) (m := 64) (by omega) (by rw [HOK.out.len]; exact HCE.out.le)).2
      have hlivec := live_count (b := b) 64 hliveb
      generalize sb.count b 64 = q3 at *
      obtain ⟨kl, sc⟩ := q3
      simp only at HCN hcle HX1 hlivec
      refine HCN.out.mono ?_
      rintro e wf ⟨rfl, hcf, hkf⟩
      have HXF := Lib.hid (HXE.out.kp hkf (by omega))
      have HCF := Lib.hid hcf
      have HKF := Lib.hid (HKE.out.trans hkf)
      have hzf := hkf.size
      clear hcf hkf HCN HXE
      go_wp2_with fail
      have HTF := Lib.hid (take_any HOK.out sc kl (by omega) (hlivec.elim (fun h => .inl h) fun h => .inr (.inr h)) wf HCF.out)
      have hlived := live_take (b := b) kl hlivec
      have hkey := Txs.Cur.take_len b sc kl
      generalize sc.take b kl = q4 at *
      obtain ⟨key, sd⟩ := q4
      simp only at HTF hkey HX1 hlived
      refine HTF.out.mono ?_
      rintro e wg ⟨Ak, ck, rfl, hkat, hcg, hkg⟩
      have HXG := Lib.hid (HXF.out.kp hkg (by omega))
      have HCG := Lib.hid hcg
      have HKG := Lib.hid (HKF.out.trans hkg)
      have hzg := hkg.size
      have HSK := Lib.hid (BytesAt.src hkat)
      have hky64 : key.length ≤ 64 := by omega
      have HX1' := Lib.hid (show b.length = b.length from rfl)
      have e33 := in_key HXG.out ⟨HFL.out, hv4'⟩
      have fe33 := HXG.out.frozen 33
      simp only at hkat
      clear hcg hkg HTF HXF hkey hcle
      go_upto_region 10 with (at_builtin; refine wpList_app _ rfl (.const (.slice none 0 0)) (.tmp 43) _ rfl wg.heap.size 5 ib _ 1 1 Tryd.underlying22 Bi.out Bz.out Bz1.out Bz2.out rfl (by decide) (.slice none 0 0) 0 [] rfl (own_nil _ _) Ak key.length ck (key.map byteV) rfl (by rw [List.length_map, Nat.mul_one]) HSK.out (oneCell_bytes _) (by unfold maxLen; omega) (by omega) (Nat.le_refl _) ?_; intro v5 w5 hrow5 hg5 hat5; have hn5 : OwnB w5 wg.heap.size v5 key := (by have := own_app (bs := []) hrow5 rfl rfl; simpa using this); obtain ⟨A5, c5, rfl, _⟩ := own_form hn5; have HN5 := Lib.hid hn5; have HG5 := Lib.hid (Grw.of_app hg5 hat5); have HX5 := Lib.hid (HG5.out.bk HXG.out (by simp [Value.ownBlock])).1; have e33' := in_key HX5.out ⟨HFL.out, hv4'⟩; have fe33' := HX5.out.frozen 33)
      have hrl := hinv.out.row.lt
      have HKN5 := Lib.hid (KeyN.of_own (v := none) (vi := vi) HN5.out (fun i hi => by have := (hrl i hi).2; omega))
      have HKG5 := Lib.hid (HKG.out.trans_of HG5.out.kp (fun i hi e => by simp [Value.ownBlock] at e))
      have hz5 := HG5.out.kp.size
      obtain ⟨w6, hw6⟩ : ∃ w6, w6 = w5.setCell ⟨wr.heap.size, 33, none⟩ (.slice A5 key.length c5) := ⟨_, rfl⟩
      have HX6 := Lib.hid (show Bk w6 wr.heap.size 97 (inCells ⟨hb, nv, key⟩ (.slice A5 key.length c5)).toArray by rw [hw6]; exact in_set_key HX5.out HFL.out key _)
      have HK56 := Lib.hid (show Kp (fun i => i = wr.heap.size) w5 w6 by rw [hw6]; exact kp_cell1 _ _ _ _)
      have HKN6 := Lib.hid ((HKN5.out.kp HK56.out (by intro i hi; omega)).mono (show base ≤ wg.heap.size by omega))
      have HK6 := Lib.hid (HKG5.out.trans_of HK56.out (fun i hi e => by omega))
      have hz6 := HK56.out.size
      have HC6 := Lib.hid (show IsCur w6 (w.heap.size + 1) B A n c b sd from (HCG.out.kp HG5.out.kp (by simp [Value.ownBlock]) (by simp [Value.ownBlock]) (by omega)).kp HK56.out (by omega) (by intro j hj; omega) (by omega))
      rw [← hw6]
      clear hw6 hrow5 hg5 hat5 e33 fe33 e33' fe33' HX5 HXG hrl HN5 hn5 HSK hkat
      have t1 : w6.cell? ⟨T, 1, none⟩ = some vi := ((hinv.out.tx.kp HK6.out (by omega)).cell 1).trans rfl
      obtain ⟨us, hus1, hus2, hus3⟩ := hinv.out.row.kp HK6.out (by intro i hi; omega)
      obtain ⟨Ai, ci, hvi, _⟩ := own_form hus2
      subst hvi
      have HU1 := Lib.hid hus1
      have HU2 := Lib.hid hus2
      have HU3 := Lib.hid hus3
      have hxok : (⟨hb, nv, key⟩ : Txs.In).Ok := ⟨HFL.out, hv4'⟩
      have HXOK := Lib.hid hxok
      obtain ⟨cx, hcx⟩ : ∃ cx, cx = inCells ⟨hb, nv, key⟩ (.slice A5 key.length c5) := ⟨_, rfl⟩
      have HCX := Lib.hid hcx
      rw [← hcx] at HX6
      have HCL := Lib.hid (show cx.length = 34 by rw [hcx]; exact inCells_len hxok _)
      have HC1 := Lib.hid (show ∀ u ∈ cx, u.oneCell' = true by rw [hcx]; exact inCells_one _ _ _ _)
      have hZI2 := zero_in
      have hIz := Iz.out
      have hZL := zeroIn_len
      generalize (inCells ⟨List.replicate 32 0, 0, []⟩ (.slice none 0 0)).toArray = zs2 at hZI2 hIz hZL
      have HZL2 := Lib.hid hZL
      have HT6 := Lib.hid (hinv.out.tx.kp HK6.out (by omega))
      have HNT := Lib.hid (show (Value.slice Ai acc.length ci).ownBlock ≠ some T from fun e => by have := (own_lt HU2.out _ e).1; omega)
      have HZI2 := Lib.hid hZI2
      have HIZ := Lib.hid hIz
      clear hus1 hus2 hus3 hcx hZI2 hIz hxok hZL
      go_wp2_with (first
        | (refine wpList_load_row rfl 97 (.tmp 8) rfl wr.heap.size (by rfl) 97 cx.toArray (0, 0) _ HX6.out Tryd.underlying97 rfl (by simp only [List.size_toArray, HCL.out]; exact size_in) ?_)
        | (refine wpList_buildOne rfl 46 97 (.tmp 48) rfl cx.toArray (by rfl) Tryd.underlying46 (by simp only [List.size_toArray, HCL.out]; exact size_in) zs2 HZI2.out (by simp only [List.size_toArray, HCL.out]; omega) (by simp only [List.size_toArray, HCL.out]; omega) ?_)
        | (at_builtin; refine wpList_app _ rfl (.tmp 47) (.tmp 49) _ rfl base 97 ii _ 34 64 Tryd.underlying46 Ii.out HIZ.out Iz1.out Iz2.out HZL2.out (by decide) (.slice Ai acc.length ci) acc.length _ rfl (own_below HU2.out (Joins.below_alloc1 _ _)) (some ⟨w6.heap.size, 0, none⟩) 1 1 cx rfl (by rw [HCL.out]) (Src.new _ _ _) HC1.out (by unfold maxLen; omega) (by omega) (by simp; omega) ?_; intro v7 w7 hrow7 hg7 hat7; have HG7 := Lib.hid ((Grw.of_below (Joins.below_alloc1 _ _) _).trans (Grw.of_app hg7 hat7)); have HT7 := Lib.hid (HG7.out.bk HT6.out HNT.out).1; have f7 := HT7.out.frozen 1; have t7 : w7.cell? ⟨T, 1, none⟩ = some (.slice Ai acc.length ci) := (HT7.out.cell 1).trans rfl; have hrow7' := hrow7; obtain ⟨A7, c7, rfl, _⟩ := own_form hrow7'))
      go_roundw
      case rel =>
        have hkp7 : Kp (fun i => i = T) w7 (w7.setCell ⟨T, 1, none⟩ (.slice A7 (acc.length + 1) c7)) := kp_cell1 _ _ _ _
        have hz7 := HG7.out.kp.size
        have hrow := RowI.push HU1.out (fun i hi => ⟨(HU3.out i hi).1, by obtain ⟨u, hu, hp⟩ := (HU3.out i hi).2; exact ⟨u, hu, hp.kp ((Kp.refl (fun _ => False) w6).alloc (.cells cx.toArray 97)) (fun _ _ _ h => h)⟩⟩)
          HXOK.out (HKN6.out.kp ((Kp.refl (fun _ => False) w6).alloc (.cells cx.toArray 97)) (fun _ _ _ h => h)) (by rw [← HCX.out]; exact hrow7) hg7 hat7
        refine ⟨k - 1, sd, .slice A7 (acc.length + 1) c7, acc ++ [⟨hb, nv, key⟩], congrArg (Value.int .i64) (by omega), by rw [List.length_append, List.length_singleton]; omega, Lib.hid ⟨?_, ?_, ?_, ?_, ?_, ?_⟩, Lib.hid ?_, Lib.hid hlived⟩
        · exact (HC6.out.kp HG7.out.kp (fun e => by have := (own_lt HU2.out _ e).1; omega) (fun i hi e => by have := (own_lt HU2.out _ e).1; omega) (by omega)).kp hkp7 (by omega) (by intro j hj; omega) (by omega)
        · exact ((hinv.out.res.kp HK6.out (by omega)).kp HG7.out.kp (fun e => by have := (own_lt HU2.out _ e).1; omega)).kp hkp7 (by omega)
        · exact HT7.out.set 1 _
        · exact hrow.kp hkp7 (by intro i hi; omega)
        · exact ((Kp.from_elder hinv.out.below HK6.out (fun i hi => by omega)).trans ((HG7.out.below HU2.out (Nat.le_refl _) (by omega)).mono (by omega))).setCell (by show w.heap.size ≤ T; omega) _
        · show base ≤ (w7.setCell _ _).heap.size
          simp; omega
        · rw [← hri.out]
          obtain ⟨k', rfl⟩ : ∃ k', k = k' + 1 := ⟨k - 1, by omega⟩
          rw [ins_more hse, HX1.out]
          rfl
      case measure => simp [intOf]; omega
    · have hstop : k = 0 ∨ s.e ≠ 0 := by
        rcases Nat.eq_zero_or_pos k with h | h
        · exact .inl h
        · exact .inr (fun e => hgo ⟨h, e⟩)
      have hr := hri.out
      rw [ins_stop hstop] at hr
      rw [← hr] at HGP
      have c2 := cur_err hinv.out.cur
      have hws := hinv.out.size
      have HCN := Lib.hid (count_any HOK.out s 8 (by omega) hlive.out wr hinv.out.cur)
      have hlive3 := live_count (b := b) 8 hlive.out
      have hcle := (Txs.Cur.count_le (b := b) (s := s) (m := 8) (by omega) (by rw [HOK.out.len]; exact hinv.out.cur.le)).2
      have hvi : ∃ Ai ci, vi = .slice Ai acc.length ci := by obtain ⟨A, cap, h, _⟩ := hinv.out.row.at_; exact ⟨A, cap, h⟩
      obtain ⟨Ai, ci, rfl⟩ := hvi
      have hsplit : (¬ (0 : Int) < (k : Int) ∧ ¬ 0 < k) ∨ (0 < k ∧ (s.e == 0) = false) := by
        rcases hstop with h | h
        · left; exact ⟨by omega, by omega⟩
        · rcases Nat.eq_zero_or_pos k with h0 | h0
          · left; exact ⟨by omega, by omega⟩
          · right; exact ⟨by omega, by rw [beq_eq_false_iff_ne]; exact h⟩
      simp only at HCN hlive3 HGP
      generalize s.count b 8 = r5 at *
      obtain ⟨k5, s5⟩ := r5
      simp only at HCN hlive3 HGP hcle
      clear hri hr hstop hgo hlive
      rcases hsplit with ⟨hs1, hs2⟩ | ⟨hs1, hs2⟩
      all_goals
        go_wp2_with fail
        refine HCN.out.mono ?_
        rintro e w5 ⟨rfl, hc5, hk5⟩
        have hz5 := hk5.size
        have HRI5 := Lib.hid (hinv.out.row.kp hk5 (by intro i hi; omega))
        have HR5 := Lib.hid (hinv.out.res.kp hk5 (by omega))
        have HB5 := Lib.hid (Kp.from_elder hinv.out.below hk5 (fun i hi => by omega))
        have hbz5 := HB5.out.size
        obtain ⟨base2, hb2⟩ : ∃ base2, base2 = w5.heap.size := ⟨_, rfl⟩
        have hbb : base ≤ base2 := by omega
        have hbb2 : w5.heap.size ≤ base2 := by omega
        have hbb3 : base2 ≤ w5.heap.size := by omega
        have HO5 := Lib.hid (show OutL (w.heap.size + 1) T B base2 A n c b ver s5 (.slice Ai acc.length ci) (.slice none 0 0) [] w5 w5 from ⟨hc5, hinv.out.tx.kp hk5 (by omega), RowO.nil _ _, Kp.refl _ _, by omega⟩)
        obtain ⟨ro, hro⟩ : ∃ ro, ro = Txs.Cur.outs b k5 s5 [] := ⟨_, rfl⟩
        rw [← hro] at HGP
        have HRO := Lib.hid hro.symm
        clear hro hk5 hc5 HCN c2 hb2
        go_wp2_with fail
        go_loopw [9] (fun kv wr => ∃ (k : Nat) (s : Txs.Cur) (vo : Value) (acco : List Txs.Out), kv = .int .i64 (k : Int) ∧ k + acco.length ≤ 8 ∧ Hid (OutL (w.heap.size + 1) T B base2 A n c b ver s (.slice Ai acc.length ci) vo acco w5 wr) ∧ Hid (Txs.Cur.outs b k s acco = ro) ∧ Hid (0 < n ∨ s.e ≠ 0)) (fun kv _ => (intOf kv).toNat)
        case atStart => exact ⟨k5, s5, _, [], rfl, hcle, HO5, HRO, Lib.hid hlive3⟩
        case round =>
          clear HRO HO5 hlive3
          obtain ⟨k', s', vo, acco, rfl, hka', hinv', hri', hlive'⟩ := hrel
          by_cases hgo : 0 < k' ∧ s'.e = 0
          · obtain ⟨hk0, hse⟩ := hgo
            have hk0' : (0 : Int) < (k' : Int) := by omega
            have c2 : wr.cell? ⟨w.heap.size + 1, 2, none⟩ = some (.int .i64 0) := by rw [← hse]; exact cur_err hinv'.out.cur
            have hws := hinv'.out.size
            obtain ⟨wa, hwa⟩ : ∃ wa, wa = wr.alloc (.cells (outCells ⟨0, List.replicate 32 0⟩).toArray 158) := ⟨_, rfl⟩
            have HXA := Lib.hid (show Bk wa wr.heap.size 158 (outCells ⟨0, List.replicate 32 0⟩).toArray by rw [hwa]; exact Bk.new _ _ _)
            have HKA := Lib.hid (show Kp (fun i => i = w.heap.size + 1) wr wa by rw [hwa]; exact (Kp.refl _ _).alloc _)
            have HZA := Lib.hid (show wa.heap.size = wr.heap.size + 1 by rw [hwa]; simp)
            have HCA := Lib.hid (show IsCur wa (w.heap.size + 1) B A n c b s' by rw [hwa]; exact hinv'.out.cur.kp (S := fun _ => False) ((Kp.refl _ _).alloc _) (fun h => h) (fun _ _ h => h) (by omega))
            have hZO := zero_out
            obtain ⟨zs, hzs⟩ : ∃ zs, zs = (outCells ⟨0, List.replicate 32 0⟩).toArray := ⟨_, rfl⟩
            rw [← hzs] at hZO hwa
            have HZO := Lib.hid hZO
            have HNB := Lib.hid (number_any HOK.out s' 8 (by omega) wa HCA.out)
            have HX1 := Lib.hid (show Txs.Cur.out b s' = (⟨Oct.val (s'.take b 8).1, Txs.fill32 ((s'.take b 8).2.take b 32).1⟩, ((s'.take b 8).2.take b 32).2) from rfl)
            have hl8 := Txs.Cur.take_len b s' 8
            have hv8 := Oct.val_lt (s'.take b 8).1
            have hlivea := live_take (b := b) 8 hlive'.out
            generalize s'.take b 8 = q1 at *
            obtain ⟨nl, sa⟩ := q1
            simp only at HNB hl8 hv8 HX1 hlivea
            have hv8' : Oct.val nl < 18446744073709551616 := by
              rcases hl8 with h | h
              · rw [h] at hv8; have : (256 : Nat) ^ 0 = 1 := rfl; omega
              · rw [h] at hv8; exact hv8
            generalize Oct.val nl = nv at *
            have HV8 := Lib.hid hv8'
            clear hl8 hv8 hv8' hZO hzs
            go_wp2_with (refine wpList_allocOf rfl 158 rfl zs HZO.out ?_)
            rw [← hwa]
            clear hwa
            refine HNB.out.mono ?_
            rintro e wb ⟨rfl, hcb, hkb⟩
            have HXB := Lib.hid (HXA.out.kp hkb (by omega))
            have HKB := Lib.hid (HKA.out.trans hkb)
            have HCB := Lib.hid hcb
            have hzb := hkb.size
            rw [HZA.out] at hzb
            have d0 := out_value HXB.out
            have f0 := HXB.out.frozen 0
            clear hcb hkb HNB HXA
            go_wp2_with fail
            obtain ⟨wc, hwc⟩ : ∃ wc, wc = wb.setCell ⟨wr.heap.size, 0, none⟩ (.int .u64 (nv : Int)) := ⟨_, rfl⟩
            have HXC := Lib.hid (show Bk wc wr.heap.size 158 (outCells ⟨nv, List.replicate 32 0⟩).toArray by rw [hwc]; exact out_set_value HXB.out nv)
            have HKBC := Lib.hid (show Kp (fun i => i = wr.heap.size) wb wc by rw [hwc]; exact kp_cell1 _ _ _ _)
            have HCC := Lib.hid (HCB.out.kp HKBC.out (by omega) (by intro j hj; omega) (by omega))
            have HKC := Lib.hid (HKB.out.trans_of HKBC.out (fun i hi e => by omega))
            have hzc := HKBC.out.size
            rw [← hwc]
            clear hwc d0 f0 HXB
            have HHS := Lib.hid (hash_any HOK.out sa wc HCC.out)
            have hl32 := Txs.Cur.take_len b sa 32
            have hliveb := live_take (b := b) 32 hlivea
            generalize sa.take b 32 = q2 at *
            obtain ⟨hl, sb⟩ := q2
            simp only at HHS hl32 HX1 hliveb
            have hfl := Txs.fill32_len (l := hl) (by omega)
            generalize Txs.fill32 hl = hb at *
            have HFL := Lib.hid hfl
            clear hfl hl32
            refine HHS.out.mono ?_
            rintro e wd ⟨rfl, hcd, hkd⟩
            have HXD := Lib.hid (HXC.out.kp hkd (by omega))
            have HCD := Lib.hid hcd
            have HKD := Lib.hid (HKC.out.trans hkd)
            have hzd := hkd.size
            obtain ⟨ca, hca⟩ : ∃ ca, ca = bytesArr hb := ⟨_, rfl⟩
            rw [← hca]
            have HTH := Lib.hid (show wd.there wr.heap.size 1 ca.size from there_of_bk HXD.out 1 _ (by rw [hca]; simp [bytesArr, HFL.out, outCells]))
            have HS1 := Lib.hid (show ca.size = 32 by rw [hca]; simp [bytesArr, HFL.out])
            have HO1 := Lib.hid (show ca.all (·.oneCell') = true by rw [hca]; exact all_oneCell_toArray (oneCell_bytes _))
            obtain ⟨we, hwe⟩ : ∃ we, we = wd.setCells wr.heap.size 1 ca.toList := ⟨_, rfl⟩
            have hcl : ca.toList = hb.map byteV := by rw [hca]; simp [bytesArr]
            have HXE := Lib.hid (show Bk we wr.heap.size 158 (outCells ⟨nv, hb⟩).toArray by rw [hwe, hcl]; exact out_set_lock HXD.out HFL.out)
            have HKDE := Lib.hid (show Kp (fun i => i = wr.heap.size) wd we by rw [hwe]; exact kp_cells1 _ _ _ _)
            have HCE := Lib.hid (HCD.out.kp HKDE.out (by omega) (by intro j hj; omega) (by omega))
            have HKE := Lib.hid (HKD.out.trans_of HKDE.out (fun i hi e => by omega))
            have hze := HKDE.out.size
            clear hcd hkd hca hcl HXC HXD HHS
            go_upto_region 17 with (refine wpList_store_mid rfl 93 (.tmp 70) (.tmp 69) rfl wr.heap.size 1 ca (by rfl) (by rfl) HTH.out (by rw [HS1.out]; exact size_hash) HO1.out ?_)
            rw [← hwe]
            clear hwe
            have t2 : we.cell? ⟨T, 2, none⟩ = some vo := ((hinv'.out.tx.kp HKE.out (by omega)).cell 2).trans rfl
            obtain ⟨hrow2, hrok⟩ := hinv'.out.row.kp HKE.out (by intro i hi; omega)
            obtain ⟨Ao, co, hvo, _⟩ := own_form hrow2
            subst hvo
            have HU2 := Lib.hid hrow2
            have HU3 := Lib.hid hrok
            have hxok : (⟨nv, hb⟩ : Txs.Out).Ok := ⟨HV8.out, HFL.out⟩
            have HXOK := Lib.hid hxok
            obtain ⟨cx, hcx⟩ : ∃ cx, cx = outCells ⟨nv, hb⟩ := ⟨_, rfl⟩
            have HCX := Lib.hid hcx
            rw [← hcx] at HXE
            have HCL := Lib.hid (show cx.length = 33 by rw [hcx]; exact outCells_len hxok)
            have HC1 := Lib.hid (show ∀ u ∈ cx, u.oneCell' = true by rw [hcx]; exact outCells_one _)
            have hZO2 := zero_out
            have hOz := Oz.out
            have hZL := zeroOut_len
            generalize (outCells ⟨0, List.replicate 32 0⟩).toArray = zs2 at hZO2 hOz hZL
            have HZL2 := Lib.hid hZL
            have HZO2 := Lib.hid hZO2
            have HOZ := Lib.hid hOz
            have HT6 := Lib.hid (hinv'.out.tx.kp HKE.out (by omega))
            have HNT := Lib.hid (show (Value.slice Ao acco.length co).ownBlock ≠ some T from fun e => by have := (own_lt HU2.out _ e).1; omega)
            clear hrow2 hrok hcx hZO2 hOz hZL hxok
            go_wp2_with (first
              | (refine wpList_load_row rfl 158 (.tmp 10) rfl wr.heap.size (by rfl) 158 cx.toArray (0, 0) _ HXE.out Tryd.underlying158 rfl (by simp only [List.size_toArray, HCL.out]; exact size_out) ?_)
              | (refine wpList_buildOne rfl 47 158 (.tmp 73) rfl cx.toArray (by rfl) Tryd.underlying47 (by simp only [List.size_toArray, HCL.out]; exact size_out) zs2 HZO2.out (by simp only [List.size_toArray, HCL.out]; omega) (by simp only [List.size_toArray, HCL.out]; omega) ?_)
              | (at_builtin; refine wpList_app _ rfl (.tmp 72) (.tmp 74) _ rfl base2 158 io _ 33 40 Tryd.underlying47 Oi.out HOZ.out Oz1.out Oz2.out HZL2.out (by decide) (.slice Ao acco.length co) acco.length _ rfl (own_below HU2.out (Joins.below_alloc1 _ _)) (some ⟨we.heap.size, 0, none⟩) 1 1 cx rfl (by rw [HCL.out]) (Src.new _ _ _) HC1.out (by unfold maxLen; omega) (by omega) (by simp; omega) ?_; intro v7 w7 hrow7 hg7 hat7; have HG7 := Lib.hid ((Grw.of_below (Joins.below_alloc1 _ _) _).trans (Grw.of_app hg7 hat7)); have HT7 := Lib.hid (HG7.out.bk HT6.out HNT.out).1; have f7 := HT7.out.frozen 2; have t7 : w7.cell? ⟨T, 2, none⟩ = some (.slice Ao acco.length co) := (HT7.out.cell 2).trans rfl; have hrow7' := hrow7; obtain ⟨A7, c7, rfl, _⟩ := own_form hrow7'))
            go_roundw
            case rel =>
              have hkp7 : Kp (fun i => i = T) w7 (w7.setCell ⟨T, 2, none⟩ (.slice A7 (acco.length + 1) c7)) := kp_cell1 _ _ _ _
              have hz7 := HG7.out.kp.size
              refine ⟨k' - 1, sb, .slice A7 (acco.length + 1) c7, acco ++ [⟨nv, hb⟩], congrArg (Value.int .i64) (by omega), by rw [List.length_append, List.length_singleton]; omega, Lib.hid ⟨?_, ?_, ?_, ?_, ?_⟩, Lib.hid ?_, Lib.hid hliveb⟩
              · exact (HCE.out.kp HG7.out.kp (fun e => by have := (own_lt HU2.out _ e).1; omega) (fun i hi e => by have := (own_lt HU2.out _ e).1; omega) (by omega)).kp hkp7 (by omega) (by intro j hj; omega) (by omega)
              · exact HT7.out.set 2 _
              · exact (RowO.push HU3.out HXOK.out (by rw [← HCX.out]; exact hrow7)).kp hkp7 (by intro i hi; omega)
              · exact ((hinv'.out.kp.trans_of HKE.out (fun i hi e => .inl e)).trans_of HG7.out.kp (fun i hi e => by have := (own_lt HU2.out _ e).1; omega)).trans_of hkp7 (fun i hi e => .inr e)
              · show base2 ≤ (w7.setCell _ _).heap.size
                simp; omega
              · rw [← hri'.out]
                obtain ⟨k'', rfl⟩ : ∃ k'', k' = k'' + 1 := ⟨k' - 1, by omega⟩
                rw [outs_more hse, HX1.out]
                rfl
            case measure => simp [intOf]; omega
          · have hstop' : k' = 0 ∨ s'.e ≠ 0 := by
              rcases Nat.eq_zero_or_pos k' with h | h
              · exact .inl h
              · exact .inr (fun e => hgo ⟨h, e⟩)
            have hr := hri'.out
            rw [outs_stop hstop'] at hr
            rw [← hr] at HGP
            have hsplit' : (¬ (0 : Int) < (k' : Int) ∧ ¬ 0 < k') ∨ (0 < k' ∧ (s'.e == 0) = false) := by
              rcases hstop' with h | h
              · left; exact ⟨by omega, by omega⟩
              · rcases Nat.eq_zero_or_pos k' with h0 | h0
                · left; exact ⟨by omega, by omega⟩
                · right; exact ⟨by omega, by rw [beq_eq_false_iff_ne]; exact h⟩
            have c1 := cur_at hinv'.out.cur
            have c2 := cur_err hinv'.out.cur
            have hvo : ∃ Ao co, vo = .slice Ao acco.length co := by obtain ⟨A, cap, h, _⟩ := hinv'.out.row.at_; exact ⟨A, cap, h⟩
            obtain ⟨Ao, co, rfl⟩ := hvo
            have t0 : wr.cell? ⟨T, 0, none⟩ = some (.int .u32 (ver : Int)) := (hinv'.out.tx.cell 0).trans rfl
            have t1 : wr.cell? ⟨T, 1, none⟩ = some (.slice Ai acc.length ci) := (hinv'.out.tx.cell 1).trans rfl
            have t2 : wr.cell? ⟨T, 2, none⟩ = some (.slice Ao acco.length co) := (hinv'.out.tx.cell 2).trans rfl
            have HRR := Lib.hid (HR5.out.kp hinv'.out.kp (by omega))
            have r0 : wr.cell? ⟨w.heap.size, 0, none⟩ = some (.int .u32 0) := (HRR.out.cell 0).trans rfl
            have r1 : wr.cell? ⟨w.heap.size, 1, none⟩ = some (.slice none 0 0) := (HRR.out.cell 1).trans rfl
            have r2 : wr.cell? ⟨w.heap.size, 2, none⟩ = some (.slice none 0 0) := (HRR.out.cell 2).trans rfl
            have fr0 := HRR.out.frozen 0
            have fr1 := HRR.out.frozen 1
            have fr2 := HRR.out.frozen 2
            have hTne : T ≠ w.heap.size := by omega
            have hTne' : w.heap.size ≠ T := by omega
            have hgne : w.heap.size + 1 ≠ w.heap.size := by omega
            have HBE := Lib.hid (Kp.from_elder HB5.out hinv'.out.kp (fun i hi => by omega))
            have HRI := Lib.hid (HRI5.out.kp hinv'.out.kp (by intro i hi _ h; omega))
            have HRO := Lib.hid hinv'.out.row
            clear hri' hr hstop' hgo hlive'
            by_cases hfe : s'.e = 0
            · have hfe2 : (s'.e != 0) = false := by rw [bne_eq_false_iff_eq]; exact hfe
              have HEND := Lib.hid (show Txs.getP b = (⟨ver, acc, acco⟩, s'.p, 0) by rw [HGP.out]; unfold fin7; rw [if_neg (by simp [hfe])])
              clear hfe
              rcases hsplit' with ⟨hp1, hp2⟩ | ⟨hp1, hp2⟩
              all_goals
                go_wp2_with fail
                go_region_held3 (fun w' => w'.cell? ⟨w.heap.size + 1, 1, none⟩ = some (.int .i64 (s'.p : Int)) ∧ w'.cell? ⟨T, 0, none⟩ = some (.int .u32 (ver : Int)) ∧ w'.cell? ⟨T, 1, none⟩ = some (.slice Ai acc.length ci) ∧ w'.cell? ⟨T, 2, none⟩ = some (.slice Ao acco.length co)) (go_keep) (fail)
                go_wp2_with fail
                obtain ⟨wz, hwz⟩ : ∃ wz, wz = (((wr.setCell ⟨w.heap.size, 0, none⟩ (.int .u32 (ver : Int))).setCell ⟨w.heap.size, 1, none⟩ (.slice Ai acc.length ci)).setCell ⟨w.heap.size, 2, none⟩ (.slice Ao acco.length co)).drew := ⟨_, rfl⟩
                have hz : Bk wz w.heap.size 49 (txCells ver (.slice Ai acc.length ci) (.slice Ao acco.length co)) := by rw [hwz]; exact ((HRR.out.set 0 _).set 1 _).set 2 _
                have hkz : Kp (fun i => i = w.heap.size) wr wz := by rw [hwz]; exact (((kp_cell1 _ _ _ _).trans (kp_cell1 _ _ _ _)).trans (kp_cell1 _ _ _ _)).drew
                rw [← hwz]
                refine bodyPost_ret (results_row_tmp2 rfl _ _ w.heap.size 49 (txCells ver (.slice Ai acc.length ci) (.slice Ao acco.length co)) (0, 0) _ rfl hz Tryd.underlying49 rfl size_tx (.int .i64 (s'.p : Int)) (by rfl) (.int .i64 0) (by rfl)) rfl ?_
                refine ⟨Ai, ci, Ao, co, ?_, ?_, Kp.from_elder HBE.out hkz (fun i hi => by omega)⟩
                · rw [HEND.out]; rfl
                · rw [HEND.out]
                  intro wy hy
                  have hI := ((HRI.out.kp hkz (by intro i hi; omega)).kp hy (by intro i hi; omega)).at_
                  have hO := ((HRO.out.kp hkz (by intro i hi; omega)).kp hy (by intro i hi; omega)).at_
                  obtain ⟨A1, c1', e1, i1, i2, i3⟩ := hI
                  obtain ⟨A2, c2', e2, o1, o2, o3⟩ := hO
                  injection e1 with e1 _ e1'
                  injection e2 with e2 _ e2'
                  subst e1 e1' e2 e2'
                  exact ⟨HV1.out, i1, i2, o1, o2, i3, o3⟩
            · have hfe2 : (s'.e != 0) = true := by rw [bne_iff_ne]; exact hfe
              have HEND := Lib.hid (show Txs.getP b = (Txs.none, 0, s'.e) by rw [HGP.out]; unfold fin7; rw [if_pos hfe])
              clear hfe
              rcases hsplit' with ⟨hp1, hp2⟩ | ⟨hp1, hp2⟩
              all_goals
                go_wp2_with fail
                go_region_held3 (fun w' => w'.cell? ⟨w.heap.size + 1, 2, none⟩ = some (.int .i64 s'.e)) (go_keep) (fail)
                go_wp2_with fail
                obtain ⟨wz, hwz⟩ : ∃ wz, wz = (((wr.setCell ⟨w.heap.size, 0, none⟩ (.int .u32 0)).setCell ⟨w.heap.size, 1, none⟩ (.slice none 0 0)).setCell ⟨w.heap.size, 2, none⟩ (.slice none 0 0)).drew := ⟨_, rfl⟩
                have hz : Bk wz w.heap.size 49 (txCells 0 (.slice none 0 0) (.slice none 0 0)) := by rw [hwz]; exact ((HRR.out.set 0 _).set 1 _).set 2 _
                have hkz : Kp (fun i => i = w.heap.size) wr wz := by rw [hwz]; exact (((kp_cell1 _ _ _ _).trans (kp_cell1 _ _ _ _)).trans (kp_cell1 _ _ _ _)).drew
                rw [← hwz]
                refine bodyPost_ret (results_row_tmp2 rfl _ _ w.heap.size 49 (txCells 0 (.slice none 0 0) (.slice none 0 0)) (0, 0) _ rfl hz Tryd.underlying49 rfl size_tx (.int .i64 0) (by rfl) (.int .i64 s'.e) (by rfl)) rfl ?_
                refine ⟨none, 0, none, 0, ?_, ?_, Kp.from_elder HBE.out hkz (fun i hi => by omega)⟩
                · rw [HEND.out]; rfl
                · rw [HEND.out]; exact none_new _ _
/-- what is read of bytes -/
theorem get_any (A : Option Addr) (n c B : Nat) (b : List UInt8) (w : World) (hl : b.length = n) (hc : n ≤ c) (hm : c ≤ maxLen) (hn : n ≤ 140737488351232) (hat : BytesAt w B A b) (hB : B ≤ w.heap.size) :
    Calls Tryd.prog 90 #[.slice A n c] w fun e w' => GetOut7 w w' (Txs.get b) e := by
  have := get_walk A n c B b w hl hc hm hn hat hB
  rwa [Txs.getP_eq] at this
end Go.Proofs.YtpacgblddeoheaaDoor.T7
