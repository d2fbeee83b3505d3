/- Package msg: a message as a command and a body. -/
import Derived.Test.YtanjlgkbjcienaaMsgChecked
import Derived.Test.YtanjlgkbjcienaaTxPut
import Derived.Test.YtanjlgkbjcienaaOct2
namespace Go.Proofs.Ytanjlgkbjcienaa.M8
open Go.RowKit Go.Deep T7
set_option linter.unusedVariables false
set_option linter.unusedSimpArgs false
set_option maxRecDepth 100000
attribute [local go_sem ↓] Go.wp_at_zero Go.wp_at_succ

theorem ovar_small (x : Nat) (h : x < 253) (w : World) :
    Calls Try.prog 33 #[.int .u64 (x : Int)] w fun r w' => ∃ v, r = .returned v ∧ OwnB w' w.heap.size v (Oct.var x) ∧ Below w.heap.size w w' := by
  have e : Oct.size x = 1 := by unfold Oct.size; rw [if_pos h]
  have ev : Oct.var x = [UInt8.ofNat x] := by unfold Oct.var; rw [if_pos h]
  have hs := osize_any x
  rw [e] at hs
  have HS := Lib.hid hs
  rw [ev]
  clear e ev hs
  go_enter Try.func33, Try.ntmps33
  go_wp2_with (go_at_call 44; refine (HS.out _).mono ?_; rintro e w' ⟨rfl, rfl⟩)
  go_ret
  refine ⟨_, rfl, ?_, (Below.refl _ _).alloc (Nat.le_refl _) _⟩
  have hown := own_one w (UInt8.ofNat x)
  rw [← byteV_nat] at hown
  first | exact hown | (rw [show ((x : Int) % 256) = (x : Int) by omega] at hown; exact hown)
theorem byteV_shr8 (x k : Nat) : Value.int .u8 ((x : Int) / 2 ^ (8 * k) % 256) = byteV (UInt8.ofNat (x / 256 ^ k)) := by
  unfold byteV
  rw [Oct.shr_nat, UInt8.toNat_ofNat', Nat.pow_mul]
  congr 1
set_option maxHeartbeats 4000000 in
theorem mput_bad (m : Msgs.Msg) (A A1 A2 : Option Addr) (c c1 c2 B : Nat) (w : World) (h : MsgAt w B m A c A1 c1 A2 c2) (hB : B ≤ w.heap.size) (hE : Msgs.errOf m ≠ 0) :
    Calls Try.prog 14 #[msgV m A c A1 c1 A2 c2] w fun e w' => e = .returned (.tuple #[.string ⟨#[]⟩, .slice none 0 0, .int .i64 (Msgs.errOf m)]) ∧ Below w.heap.size w w' := by
  have HC := Lib.hid (fun W (h1 : Below B w W) (h2 : B ≤ W.heap.size) => checked_any m A A1 A2 c c1 c2 B W (h.below h1) h2)
  obtain ⟨ms, hms⟩ : ∃ ms : Array Value, ms = #[.int .i64 m.kind, .int .u64 (m.n : Int), .int .u32 (m.code : Int), .slice A m.ids.length c, .int .u32 (m.tx.version : Int), .slice A1 m.tx.ins.length c1, .slice A2 m.tx.outs.length c2] := ⟨_, rfl⟩
  have HMS := Lib.hid hms
  have HML := Lib.hid (show ms.size = 7 by rw [hms]; rfl)
  have HSH := Lib.hid (shapeRow_of (Msgs.shp m.kind))
  obtain ⟨cs, hcs⟩ : ∃ cs, cs = shapeCells (Msgs.shp m.kind) := ⟨_, rfl⟩
  unfold msgV at HC ⊢
  rw [← hms] at HC ⊢
  rw [← hcs] at HC HSH
  have HCS := Lib.hid (show cs.size = 7 by rw [hcs]; rfl)
  have HC1 := Lib.hid (show cs.all (·.oneCell') = true by rw [hcs]; simp [shapeCells, Value.oneCell'])
  generalize Msgs.errOf m = er at *
  have e1 : (er != 0) = true := by rw [bne_iff_ne]; exact hE
  clear hE h
  obtain ⟨w0, hw0⟩ : ∃ w0, w0 = w.alloc (.cells ms 32) := ⟨_, rfl⟩
  have HK0 := Lib.hid (show Bk w0 w.heap.size 32 ms by rw [hw0]; exact Bk.new _ _ _)
  have HB0 := Lib.hid (show Below w.heap.size w w0 by rw [hw0]; exact Joins.below_alloc1 _ _)
  have HZ0 := Lib.hid (show w0.heap.size = w.heap.size + 1 by rw [hw0]; simp)
  clear hcs hms
  go_enter Try.func14, Try.ntmps14
  go_upto_region 1 with (fail)
  rw [← hw0]
  clear hw0
  go_wp2_with (refine wpList_load_row rfl 32 (.tmp 1) rfl w.heap.size (by rfl) 32 ms (0, 0) _ HK0.out Try.underlying32 rfl (by rw [HML.out]; exact size_msg) ?_)
  refine (HC.out _ (HB0.out.mono hB) (by rw [HZ0.out]; omega)).mono ?_
  rintro e w1 ⟨rfl, hb1⟩
  have HK1 := Lib.hid (HK0.out.below hb1 (by rw [HZ0.out]; omega))
  have HB1 := Lib.hid (HB0.out.trans (hb1.mono HB0.out.size))
  have hz1 : w.heap.size + 1 ≤ w1.heap.size := by have := hb1.size; rw [HZ0.out] at this; exact this
  clear hb1 HK0 HB0 HZ0 HC
  go_upto_region 2 with (refine wpList_store_row rfl 52 (.tmp 5) (.tmp 13) rfl w1.heap.size cs (by rfl) (by rfl) 52 _ (Bk.new _ _ _) (by rw [HCS.out]; exact size_shape) (by rw [HCS.out]; rfl) HC1.out ?_)
  rw [World.setRow_alloc_new]
  obtain ⟨w2, hw2⟩ : ∃ w2, w2 = w1.alloc (.cells cs 52) := ⟨_, rfl⟩
  rw [← hw2]
  have HS2 := Lib.hid (show Bk w2 w1.heap.size 52 cs by rw [hw2]; exact Bk.new _ _ _)
  have HK2 := Lib.hid (show Bk w2 w.heap.size 32 ms by rw [hw2]; exact HK1.out.alloc _)
  have HB2 := Lib.hid (show Below w.heap.size w w2 by rw [hw2]; exact HB1.out.alloc HB1.out.size _)
  obtain ⟨g5, hg5⟩ : ∃ g5, g5 = w1.heap.size := ⟨_, rfl⟩
  rw [← hg5] at HS2 ⊢
  clear hw2 hg5 hz1 HK1 HB1
  go_wp2_with fail
  go_ret3
  exact ⟨rfl, HB2.out⟩
set_option maxHeartbeats 4000000 in
theorem mput_tx_no (m : Msgs.Msg) (A A1 A2 : Option Addr) (c c1 c2 B : Nat) (w : World) (h : MsgAt w B m A c A1 c1 A2 c2) (hB : B ≤ w.heap.size) (hE : Msgs.errOf m = 0) (htx : (Msgs.shp m.kind).tx = true) (hf : Txs.form m.tx = false) :
    Calls Try.prog 14 #[msgV m A c A1 c1 A2 c2] w fun e w' => e = .returned (.tuple #[.string ⟨#[]⟩, .slice none 0 0, .int .i64 5]) ∧ Below w.heap.size w w' := by
  have HC := Lib.hid (fun W (h1 : Below B w W) (h2 : B ≤ W.heap.size) => checked_any m A A1 A2 c c1 c2 B W (h.below h1) h2)
  obtain ⟨ms, hms⟩ : ∃ ms : Array Value, ms = #[.int .i64 m.kind, .int .u64 (m.n : Int), .int .u32 (m.code : Int), .slice A m.ids.length c, .int .u32 (m.tx.version : Int), .slice A1 m.tx.ins.length c1, .slice A2 m.tx.outs.length c2] := ⟨_, rfl⟩
  have HMS := Lib.hid hms
  have HML := Lib.hid (show ms.size = 7 by rw [hms]; rfl)
  have HSH := Lib.hid (shapeRow_of (Msgs.shp m.kind))
  obtain ⟨cs, hcs⟩ : ∃ cs, cs = shapeCells (Msgs.shp m.kind) := ⟨_, rfl⟩
  unfold msgV at HC ⊢
  rw [← hms] at HC ⊢
  rw [← hcs] at HC HSH
  have HCS := Lib.hid (show cs.size = 7 by rw [hcs]; rfl)
  have HC1 := Lib.hid (show cs.all (·.oneCell') = true by rw [hcs]; simp [shapeCells, Value.oneCell'])
  have HT := Lib.hid (fun W (h1 : Below B w W) (h2 : B ≤ W.heap.size) => put_no m.tx A1 A2 c1 c2 B W (h.tx.below h1) h2 hf)
  unfold txV at HT
  rw [hE] at HC
  have HTX := Lib.hid htx
  clear hE htx h hf
  generalize (⟨(Msgs.shp m.kind).cmd.toArray⟩ : ByteArray) = str at *
  generalize (m.tx.version : Int) = ver at *
  generalize m.tx.ins.length = ni at *
  generalize m.tx.outs.length = no at *
  obtain ⟨w0, hw0⟩ : ∃ w0, w0 = w.alloc (.cells ms 32) := ⟨_, rfl⟩
  have HK0 := Lib.hid (show Bk w0 w.heap.size 32 ms by rw [hw0]; exact Bk.new _ _ _)
  have HB0 := Lib.hid (show Below w.heap.size w w0 by rw [hw0]; exact Joins.below_alloc1 _ _)
  have HZ0 := Lib.hid (show w0.heap.size = w.heap.size + 1 by rw [hw0]; simp)
  clear hcs hms
  go_enter Try.func14, Try.ntmps14
  go_upto_region 1 with (fail)
  rw [← hw0]
  clear hw0
  go_wp2_with (refine wpList_load_row rfl 32 (.tmp 1) rfl w.heap.size (by rfl) 32 ms (0, 0) _ HK0.out Try.underlying32 rfl (by rw [HML.out]; exact size_msg) ?_)
  refine (HC.out _ (HB0.out.mono hB) (by rw [HZ0.out]; omega)).mono ?_
  rintro e w1 ⟨rfl, hb1⟩
  have HK1 := Lib.hid (HK0.out.below hb1 (by rw [HZ0.out]; omega))
  have HB1 := Lib.hid (HB0.out.trans (hb1.mono HB0.out.size))
  have hz1 : w.heap.size + 1 ≤ w1.heap.size := by have := hb1.size; rw [HZ0.out] at this; exact this
  clear hb1 HK0 HB0 HZ0 HC
  go_upto_region 2 with (refine wpList_store_row rfl 52 (.tmp 5) (.tmp 13) rfl w1.heap.size cs (by rfl) (by rfl) 52 _ (Bk.new _ _ _) (by rw [HCS.out]; exact size_shape) (by rw [HCS.out]; rfl) HC1.out ?_)
  rw [World.setRow_alloc_new]
  obtain ⟨w2, hw2⟩ : ∃ w2, w2 = w1.alloc (.cells cs 52) := ⟨_, rfl⟩
  rw [← hw2]
  have HS2 := Lib.hid (show Bk w2 w1.heap.size 52 cs by rw [hw2]; exact Bk.new _ _ _)
  have HK2 := Lib.hid (show Bk w2 w.heap.size 32 ms by rw [hw2]; exact HK1.out.alloc _)
  have HB2 := Lib.hid (show Below w.heap.size w w2 by rw [hw2]; exact HB1.out.alloc HB1.out.size _)
  obtain ⟨g5, hg5⟩ : ∃ g5, g5 = w1.heap.size := ⟨_, rfl⟩
  rw [← hg5] at HS2 ⊢
  clear hw2 hg5 hz1 HK1 HB1
  have s6 : w2.cell? ⟨g5, 6, none⟩ = some (.bool true) := by rw [HS2.out.cell, HSH.out, HTX.out]; rfl
  have s0 : w2.cell? ⟨g5, 0, none⟩ = some (.string str) := by rw [HS2.out.cell, HSH.out]; rfl
  have m4 : w2.cell? ⟨w.heap.size, 4, none⟩ = some (.int .u32 ver) := by rw [HK2.out.cell, HMS.out]; rfl
  have m5 : w2.cell? ⟨w.heap.size, 5, none⟩ = some (.slice A1 ni c1) := by rw [HK2.out.cell, HMS.out]; rfl
  have m6 : w2.cell? ⟨w.heap.size, 6, none⟩ = some (.slice A2 no c2) := by rw [HK2.out.cell, HMS.out]; rfl
  go_wp2_with fail
  refine (HT.out _ (HB2.out.mono hB) (by have := HB2.out.size; omega)).mono ?_
  rintro e w3 ⟨rfl, hb3⟩
  have HB3 := Lib.hid (HB2.out.trans (hb3.mono HB2.out.size))
  clear hb3 s6 s0 m4 m5 m6
  go_wp2_with fail
  go_ret3
  exact ⟨rfl, HB3.out⟩
set_option maxHeartbeats 4000000 in
theorem mput_tx_yes (m : Msgs.Msg) (A A1 A2 : Option Addr) (c c1 c2 B : Nat) (w : World) (h : MsgAt w B m A c A1 c1 A2 c2) (hB : B ≤ w.heap.size) (hE : Msgs.errOf m = 0) (htx : (Msgs.shp m.kind).tx = true) (hf : Txs.form m.tx = true) :
    Calls Try.prog 14 #[msgV m A c A1 c1 A2 c2] w fun e w' => ∃ v, e = .returned (.tuple #[.string ⟨(Msgs.shp m.kind).cmd.toArray⟩, v, .int .i64 0]) ∧ OwnB w' w.heap.size v (Txs.bytes m.tx) ∧ Below w.heap.size w w' := by
  have HC := Lib.hid (fun W (h1 : Below B w W) (h2 : B ≤ W.heap.size) => checked_any m A A1 A2 c c1 c2 B W (h.below h1) h2)
  obtain ⟨ms, hms⟩ : ∃ ms : Array Value, ms = #[.int .i64 m.kind, .int .u64 (m.n : Int), .int .u32 (m.code : Int), .slice A m.ids.length c, .int .u32 (m.tx.version : Int), .slice A1 m.tx.ins.length c1, .slice A2 m.tx.outs.length c2] := ⟨_, rfl⟩
  have HMS := Lib.hid hms
  have HML := Lib.hid (show ms.size = 7 by rw [hms]; rfl)
  have HSH := Lib.hid (shapeRow_of (Msgs.shp m.kind))
  obtain ⟨cs, hcs⟩ : ∃ cs, cs = shapeCells (Msgs.shp m.kind) := ⟨_, rfl⟩
  unfold msgV at HC ⊢
  rw [← hms] at HC ⊢
  rw [← hcs] at HC HSH
  have HCS := Lib.hid (show cs.size = 7 by rw [hcs]; rfl)
  have HC1 := Lib.hid (show cs.all (·.oneCell') = true by rw [hcs]; simp [shapeCells, Value.oneCell'])
  have HT := Lib.hid (fun W (h1 : Below B w W) (h2 : B ≤ W.heap.size) => put_yes m.tx A1 A2 c1 c2 B W (h.tx.below h1) h2 hf)
  unfold txV at HT
  rw [hE] at HC
  have HTX := Lib.hid htx
  clear hE htx h hf
  generalize (⟨(Msgs.shp m.kind).cmd.toArray⟩ : ByteArray) = str at *
  generalize (m.tx.version : Int) = ver at *
  generalize m.tx.ins.length = ni at *
  generalize m.tx.outs.length = no at *
  obtain ⟨w0, hw0⟩ : ∃ w0, w0 = w.alloc (.cells ms 32) := ⟨_, rfl⟩
  have HK0 := Lib.hid (show Bk w0 w.heap.size 32 ms by rw [hw0]; exact Bk.new _ _ _)
  have HB0 := Lib.hid (show Below w.heap.size w w0 by rw [hw0]; exact Joins.below_alloc1 _ _)
  have HZ0 := Lib.hid (show w0.heap.size = w.heap.size + 1 by rw [hw0]; simp)
  clear hcs hms
  go_enter Try.func14, Try.ntmps14
  go_upto_region 1 with (fail)
  rw [← hw0]
  clear hw0
  go_wp2_with (refine wpList_load_row rfl 32 (.tmp 1) rfl w.heap.size (by rfl) 32 ms (0, 0) _ HK0.out Try.underlying32 rfl (by rw [HML.out]; exact size_msg) ?_)
  refine (HC.out _ (HB0.out.mono hB) (by rw [HZ0.out]; omega)).mono ?_
  rintro e w1 ⟨rfl, hb1⟩
  have HK1 := Lib.hid (HK0.out.below hb1 (by rw [HZ0.out]; omega))
  have HB1 := Lib.hid (HB0.out.trans (hb1.mono HB0.out.size))
  have hz1 : w.heap.size + 1 ≤ w1.heap.size := by have := hb1.size; rw [HZ0.out] at this; exact this
  clear hb1 HK0 HB0 HZ0 HC
  go_upto_region 2 with (refine wpList_store_row rfl 52 (.tmp 5) (.tmp 13) rfl w1.heap.size cs (by rfl) (by rfl) 52 _ (Bk.new _ _ _) (by rw [HCS.out]; exact size_shape) (by rw [HCS.out]; rfl) HC1.out ?_)
  rw [World.setRow_alloc_new]
  obtain ⟨w2, hw2⟩ : ∃ w2, w2 = w1.alloc (.cells cs 52) := ⟨_, rfl⟩
  rw [← hw2]
  have HS2 := Lib.hid (show Bk w2 w1.heap.size 52 cs by rw [hw2]; exact Bk.new _ _ _)
  have HK2 := Lib.hid (show Bk w2 w.heap.size 32 ms by rw [hw2]; exact HK1.out.alloc _)
  have HB2 := Lib.hid (show Below w.heap.size w w2 by rw [hw2]; exact HB1.out.alloc HB1.out.size _)
  obtain ⟨g5, hg5⟩ : ∃ g5, g5 = w1.heap.size := ⟨_, rfl⟩
  rw [← hg5] at HS2 ⊢
  clear hw2 hg5 hz1 HK1 HB1
  have s6 : w2.cell? ⟨g5, 6, none⟩ = some (.bool true) := by rw [HS2.out.cell, HSH.out, HTX.out]; rfl
  have s0 : w2.cell? ⟨g5, 0, none⟩ = some (.string str) := by rw [HS2.out.cell, HSH.out]; rfl
  have m4 : w2.cell? ⟨w.heap.size, 4, none⟩ = some (.int .u32 ver) := by rw [HK2.out.cell, HMS.out]; rfl
  have m5 : w2.cell? ⟨w.heap.size, 5, none⟩ = some (.slice A1 ni c1) := by rw [HK2.out.cell, HMS.out]; rfl
  have m6 : w2.cell? ⟨w.heap.size, 6, none⟩ = some (.slice A2 no c2) := by rw [HK2.out.cell, HMS.out]; rfl
  go_wp2_with fail
  refine (HT.out _ (HB2.out.mono hB) (by have := HB2.out.size; omega)).mono ?_
  rintro e w3 ⟨v3, rfl, ho3, hb3⟩
  have HO3 := Lib.hid (own_mono ho3 HB2.out.size)
  have t0 : w3.cell? ⟨g5, 0, none⟩ = some (.string str) := ((HS2.out.below hb3 HS2.out.lt).cell 0).trans (by rw [HSH.out]; rfl)
  have HB3 := Lib.hid (HB2.out.trans (hb3.mono HB2.out.size))
  clear ho3 hb3 s6 s0 m4 m5 m6
  go_wp2_with fail
  go_ret3
  exact ⟨v3, rfl, HO3.out, HB3.out⟩
theorem flat_take_le (l : List (List UInt8)) (k : Nat) (h : ∀ x ∈ l, x.length = 32) (hn : l.length ≤ 32) : (l.take k).flatten.length ≤ 1024 := by
  rw [Msgs.flatten_len _ (fun x hx => h x (List.mem_of_mem_take hx)), List.length_take]
  omega
theorem flat_snoc (l : List (List UInt8)) (k : Nat) (h : k < l.length) : (l.take (k + 1)).flatten = (l.take k).flatten ++ l[k] := by
  rw [List.take_succ_eq_append_getElem h, List.flatten_append, List.flatten_singleton]
theorem Msgs_le_snoc (x k : Nat) : Oct.le x (k + 1) = Oct.le x k ++ [UInt8.ofNat (x / 256 ^ k)] := by
  rw [Oct.le_append]; rfl
set_option maxHeartbeats 8000000 in
theorem mput_body (m : Msgs.Msg) (A A1 A2 : Option Addr) (c c1 c2 B : Nat) (w : World) (h : MsgAt w B m A c A1 c1 A2 c2) (hB : B ≤ w.heap.size) (hE : Msgs.errOf m = 0) (htx : (Msgs.shp m.kind).tx = false) :
    Calls Try.prog 14 #[msgV m A c A1 c1 A2 c2] w fun e w' => ∃ v, e = .returned (.tuple #[.string ⟨(Msgs.shp m.kind).cmd.toArray⟩, v, .int .i64 0]) ∧ OwnB w' w.heap.size v (Msgs.body m) ∧ Below w.heap.size w w' := by
  have HC := Lib.hid (fun W (h1 : Below B w W) (h2 : B ≤ W.heap.size) => checked_any m A A1 A2 c c1 c2 B W (h.below h1) h2)
  obtain ⟨ms, hms⟩ : ∃ ms : Array Value, ms = #[.int .i64 m.kind, .int .u64 (m.n : Int), .int .u32 (m.code : Int), .slice A m.ids.length c, .int .u32 (m.tx.version : Int), .slice A1 m.tx.ins.length c1, .slice A2 m.tx.outs.length c2] := ⟨_, rfl⟩
  have HMS := Lib.hid hms
  have HML := Lib.hid (show ms.size = 7 by rw [hms]; rfl)
  have HSH := Lib.hid (shapeRow_of (Msgs.shp m.kind))
  obtain ⟨cs, hcs⟩ : ∃ cs, cs = shapeCells (Msgs.shp m.kind) := ⟨_, rfl⟩
  unfold msgV at HC ⊢
  rw [← hms] at HC ⊢
  rw [← hcs] at HC HSH
  have HCS := Lib.hid (show cs.size = 7 by rw [hcs]; rfl)
  have HC1 := Lib.hid (show cs.all (·.oneCell') = true by rw [hcs]; simp [shapeCells, Value.oneCell'])
  have hok := h.ok
  have hft := Msgs.fits_iff.1 hE
  have hfa := Msgs.facts m.kind
  have hn32 : m.ids.length ≤ 32 := by
    have h1 := hft.idsm
    cases hq : (Msgs.shp m.kind).count
    · have := hfa.ids hq; omega
    · have := (hfa.count hq).2.2; omega
  have hsc : (Msgs.shp m.kind).code ≤ 4 := hfa.code
  have hsn : (Msgs.shp m.kind).n ≤ 8 := by rcases hfa.n with h | h <;> omega
  have HMN := Lib.hid hok.n
  have HMC := Lib.hid hok.code
  have HOKI := Lib.hid hok.ids
  have HI := Lib.hid h.ids
  have HBODY := Lib.hid (show Msgs.body m = (if (Msgs.shp m.kind).count then Oct.var m.ids.length else []) ++ (m.ids.flatten ++ (Oct.le m.code (Msgs.shp m.kind).code ++ Oct.le m.n (Msgs.shp m.kind).n)) from rfl)
  have HFL := Lib.hid (fun k => flat_take_le m.ids k hok.ids hn32)
  have HTX := Lib.hid htx
  rw [hE] at HC
  clear hE htx h hok hft hfa
  generalize (⟨(Msgs.shp m.kind).cmd.toArray⟩ : ByteArray) = str at *
  generalize (Msgs.shp m.kind).code = sc at *
  generalize (Msgs.shp m.kind).n = sn at *
  generalize (Msgs.shp m.kind).count = sq at *
  generalize Msgs.body m = body at *
  obtain ⟨ids, hids⟩ : ∃ ids, ids = m.ids := ⟨_, rfl⟩
  rw [← hids] at HI HBODY HFL HMS HOKI hms hn32
  clear hids
  obtain ⟨n, hn'⟩ : ∃ n, n = ids.length := ⟨_, rfl⟩
  rw [← hn'] at HMS hms HBODY hn32
  have HN := Lib.hid hn'
  clear hn'
  generalize m.n = mn at *
  generalize m.code = mc at *
  generalize (m.tx.version : Int) = ver at *
  generalize m.tx.ins.length = ni at *
  generalize m.tx.outs.length = no at *
  obtain ⟨zs, hzs⟩ : ∃ zs, zs = bytesArr (List.replicate 32 (0 : UInt8)) := ⟨_, rfl⟩
  have HZH := Lib.hid (show (Try.prog.info? 45).map (·.zero) = some (some (.agg zs)) by rw [hzs]; exact zero_hash)
  have HZHL := Lib.hid (show zs.size = 32 by rw [hzs]; simp [bytesArr])
  obtain ⟨i0, hi, hz0, hz1, hz2⟩ := info_parts byte_info
  have Hi := Lib.hid hi
  have Hz := Lib.hid hz0
  have Hz1 := Lib.hid hz1
  have Hz2 := Lib.hid hz2
  clear hi hz0 hz1 hz2 hzs
  obtain ⟨w0, hw0⟩ : ∃ w0, w0 = w.alloc (.cells ms 32) := ⟨_, rfl⟩
  have HK0 := Lib.hid (show Bk w0 w.heap.size 32 ms by rw [hw0]; exact Bk.new _ _ _)
  have HB0 := Lib.hid (show Below w.heap.size w w0 by rw [hw0]; exact Joins.below_alloc1 _ _)
  have HZ0 := Lib.hid (show w0.heap.size = w.heap.size + 1 by rw [hw0]; simp)
  clear hcs hms
  go_enter Try.func14, Try.ntmps14
  go_upto_region 1 with (fail)
  rw [← hw0]
  clear hw0
  go_wp2_with (refine wpList_load_row rfl 32 (.tmp 1) rfl w.heap.size (by rfl) 32 ms (0, 0) _ HK0.out Try.underlying32 rfl (by rw [HML.out]; exact size_msg) ?_)
  refine (HC.out _ (HB0.out.mono hB) (by rw [HZ0.out]; omega)).mono ?_
  rintro e w1 ⟨rfl, hb1⟩
  have HK1 := Lib.hid (HK0.out.below hb1 (by rw [HZ0.out]; omega))
  have HB1 := Lib.hid (HB0.out.trans (hb1.mono HB0.out.size))
  have hz1 : w.heap.size + 1 ≤ w1.heap.size := by have := hb1.size; rw [HZ0.out] at this; exact this
  clear hb1 HK0 HB0 HZ0 HC
  go_upto_region 2 with (refine wpList_store_row rfl 52 (.tmp 5) (.tmp 13) rfl w1.heap.size cs (by rfl) (by rfl) 52 _ (Bk.new _ _ _) (by rw [HCS.out]; exact size_shape) (by rw [HCS.out]; rfl) HC1.out ?_)
  rw [World.setRow_alloc_new]
  obtain ⟨w2, hw2⟩ : ∃ w2, w2 = w1.alloc (.cells cs 52) := ⟨_, rfl⟩
  rw [← hw2]
  have HS2 := Lib.hid (show Bk w2 w1.heap.size 52 cs by rw [hw2]; exact Bk.new _ _ _)
  have HK2 := Lib.hid (show Bk w2 w.heap.size 32 ms by rw [hw2]; exact HK1.out.alloc _)
  have HB2 := Lib.hid (show Below w.heap.size w w2 by rw [hw2]; exact HB1.out.alloc HB1.out.size _)
  obtain ⟨g5, hg5⟩ : ∃ g5, g5 = w1.heap.size := ⟨_, rfl⟩
  rw [← hg5] at HS2 ⊢
  clear hw2 hg5 hz1 HK1 HB1
  have s6 : w2.cell? ⟨g5, 6, none⟩ = some (.bool false) := by rw [HS2.out.cell, HSH.out, HTX.out]; rfl
  have s5 : w2.cell? ⟨g5, 5, none⟩ = some (.bool sq) := by rw [HS2.out.cell, HSH.out]; rfl
  have m3 : w2.cell? ⟨w.heap.size, 3, none⟩ = some (.slice A n c) := by rw [HK2.out.cell, HMS.out]; rfl
  have HI2 := Lib.hid (show HashesAt w2 B A ids from At.below HI.out (HB2.out.mono hB))
  have hB2 : B ≤ w2.heap.size := by have := HB2.out.size; omega
  obtain ⟨pre, hpre⟩ : ∃ pre, pre = (if sq then Oct.var n else []) := ⟨_, rfl⟩
  have HPRE := Lib.hid hpre
  have HPL := Lib.hid (show pre.length ≤ 1 by
    rw [hpre]
    split
    · rw [Oct.var_length]; unfold Oct.size; rw [if_pos (by omega)]; exact Nat.le_refl _
    · simp)
  rw [← hpre] at HBODY
  clear hpre HI
  cases sq
  focus
    obtain ⟨v4, hv4⟩ : ∃ v4 : Value, v4 = .slice none 0 0 := ⟨_, rfl⟩
    obtain ⟨w4, hw4⟩ : ∃ w4 : World, w4 = w2 := ⟨_, rfl⟩
    have HO4 := Lib.hid (show OwnB w4 w2.heap.size v4 pre by rw [HPRE.out, hw4, hv4]; exact own_nil _ _)
    have HG4 := Lib.hid (show Grw w2 w4 (.slice none 0 0) v4 by rw [hw4, hv4]; exact Grw.refl _ _)
    go_upto_region 11 with (fail)
    rw [← hw4, ← hv4]
    clear hw4 hv4
  rotate_left
  focus
    go_wp2_with fail
    refine (ovar_small n (by omega) _).mono ?_
    rintro e w3 ⟨v3, rfl, ho3, hb3⟩
    obtain ⟨A3, c3, rfl, _, hm3, hat3, _⟩ := OwnB.at_ ho3
    have HSRC3 := Lib.hid (BytesAt.src hat3)
    have HVL := Lib.hid (show (Oct.var n).length = 1 by rw [Oct.var_length]; unfold Oct.size; rw [if_pos (by omega)])
    have HB3 := Lib.hid hb3
    have hz3 := hb3.size
    clear ho3 hat3 hb3
    rw [HVL.out]
    go_upto_region 11 with (at_builtin; refine wpList_app _ rfl (.tmp 34) (.tmp 39) _ rfl w2.heap.size 5 i0 _ 1 1 Try.underlying22 Hi.out Hz.out Hz1.out Hz2.out rfl (by decide) (.slice none 0 0) ([] : List UInt8).length (([] : List UInt8).map byteV) rfl (own_nil _ _) A3 1 c3 ((Oct.var n).map byteV) rfl (by rw [List.length_map, HVL.out]) HSRC3.out (oneCell_bytes _) (by simp [maxLen]) (by simp) (by exact hz3) ?_; intro v4 w4 hrow4 hg4 hat4)
    have HO4 := Lib.hid (show OwnB w4 w2.heap.size v4 pre by
      rw [HPRE.out]
      have := own_app (bs := []) hrow4 rfl HVL.out.symm
      rwa [List.nil_append] at this)
    have HG4 := Lib.hid (show Grw w2 w4 (.slice none 0 0) v4 from (Grw.of_below HB3.out _).trans (Grw.of_app hg4 hat4))
    clear hrow4 hg4 hat4 hz3 HB3 HSRC3
  all_goals
    clear m3 s5 s6
    have HK4 := Lib.hid (HG4.out.bk HK2.out (by simp [Value.ownBlock]))
    have HS4 := Lib.hid (HG4.out.bk HS2.out (by simp [Value.ownBlock]))
    have hz4 := HG4.out.kp.size
    have m3 : w4.cell? ⟨w.heap.size, 3, none⟩ = some (.slice A n c) := by rw [HK4.out.1.cell, HMS.out]; rfl
    go_wp2_with fail
    go_loopw [3, 44] (fun v i wr => ∃ k : Nat, k ≤ n ∧ i = .int .i64 (k : Int) ∧ Hid (OwnB wr w2.heap.size v (pre ++ (ids.take k).flatten)) ∧ Hid (Grw w2 wr (.slice none 0 0) v)) (fun _ i _ => n - (intOf i).toNat)
    case atStart => exact ⟨0, Nat.zero_le _, rfl, Lib.hid (by simpa using HO4.out), HG4⟩
    case round =>
      obtain ⟨k, hk, rfl, hob, hgr⟩ := hrel
      have HBL := Lib.hid (hgr.out.below (own_nil w2 w2.heap.size) (Nat.le_refl _) (Nat.le_refl _))
      by_cases hlt : k < n
      · have hlt2 : k < ids.length := by rw [← HN.out]; exact hlt
        obtain ⟨b, off, rfl, hbB, hr, hxl⟩ := HashesAt.range (At.below HI2.out (HBL.out.mono hB2)) hlt2
        have HR := Lib.hid hr
        have HXL := Lib.hid hxl
        have HSN := Lib.hid (flat_snoc ids k hlt2)
        have hpl : (pre ++ (ids.take k).flatten).length ≤ 1025 := by
          rw [List.length_append]
          have := HFL.out k
          have := HPL.out
          omega
        clear hr hxl
        generalize ids[k] = x at *
        obtain ⟨P, hP⟩ : ∃ P, P = pre ++ (ids.take k).flatten := ⟨_, rfl⟩
        rw [← hP] at hob hpl
        have HP := Lib.hid hP
        obtain ⟨cx, hcx⟩ : ∃ cx, cx = x.map byteV := ⟨_, rfl⟩
        have HCX := Lib.hid hcx
        have HCL := Lib.hid (show cx.length = 32 by rw [hcx, List.length_map, HXL.out])
        have HCO := Lib.hid (show ∀ u ∈ cx, u.oneCell' = true by rw [hcx]; exact oneCell_bytes _)
        rw [← hcx] at HR
        have HOWN := Lib.hid (own_below hob.out (Joins.below_alloc1 wr (.cells cx.toArray 45)))
        have HSRC := Lib.hid (Src.new wr cx 45)
        have hws := hgr.out.kp.size
        clear hP hcx
        go_wp2_with (first
          | (refine wpList_elem rfl rfl rfl 45 (.tmp 46) (.tmp 7) (.tmp 47) rfl rfl rfl b (off + k * 32) (by rfl) cx _ HR.out Try.underlying45 rfl (by rw [HCL.out]; exact size_hash) zs HZH.out (by rw [HZHL.out, HCL.out]) HCO.out (by rfl) (by rfl) ?_)
          | (at_builtin; refine wpList_app _ rfl (.tmp 48) (.tmp 49) _ rfl w2.heap.size 5 i0 _ 1 1 Try.underlying22 Hi.out Hz.out Hz1.out Hz2.out rfl (by decide) u3 P.length (P.map byteV) rfl HOWN.out (some ⟨wr.heap.size, 0, none⟩) 32 32 cx rfl (by rw [HCL.out]) HSRC.out HCO.out (by unfold maxLen; omega) (by omega) (by simp; omega) ?_; intro v5 w5 hrow5 hg5 hat5))
        go_roundw
        case rel =>
          refine ⟨k + 1, by omega, by go_num, Lib.hid ?_, Lib.hid (hgr.out.trans ((Grw.of_below (Joins.below_alloc1 _ _) _).trans (Grw.of_app hg5 hat5)))⟩
          have := own_app hrow5 HCX.out HXL.out.symm
          rw [HSN.out, ← List.append_assoc, ← HP.out]
          exact this
        case measure => simp [intOf]; omega
      · have hkn : k = n := by omega
        have HTK := Lib.hid (show ids.take k = ids from List.take_of_length_le (by rw [hkn, HN.out]; exact Nat.le_refl _))
        have hob' := hob.out
        rw [HTK.out] at hob'
        obtain ⟨P, hP⟩ : ∃ P, P = pre ++ ids.flatten := ⟨_, rfl⟩
        rw [← hP] at hob'
        have HPP := Lib.hid hP
        have HOB := Lib.hid hob'
        have hpl : P.length ≤ 1025 := by
          rw [hP, List.length_append]
          have h1 := HFL.out n
          rw [← hkn, HTK.out] at h1
          have := HPL.out
          omega
        have HGR := hgr
        clear hkn hP hob' hob HTK HO4 HG4 HK4 HS4 m3 hgr
        have HKR := Lib.hid (HGR.out.bk HK2.out (by simp [Value.ownBlock]))
        have HSR := Lib.hid (HGR.out.bk HS2.out (by simp [Value.ownBlock]))
        have hws := HGR.out.kp.size
        have s1 : wr.cell? ⟨g5, 1, none⟩ = some (.int .i64 (sc : Int)) := by rw [HSR.out.1.cell, HSH.out]; rfl
        go_wp2_with fail
        go_loopw [3, 54] (fun v i wr => ∃ j : Nat, j ≤ sc ∧ i = .int .i64 (j : Int) ∧ Hid (OwnB wr w2.heap.size v (P ++ Oct.le mc j)) ∧ Hid (Grw w2 wr (.slice none 0 0) v)) (fun _ i _ => sc - (intOf i).toNat)
        case atStart => exact ⟨0, Nat.zero_le _, rfl, Lib.hid (by simpa [Oct.le] using HOB.out), HGR⟩
        case round =>
          obtain ⟨j, hj, rfl, hob, hgr⟩ := hrel
          have HKJ := Lib.hid (hgr.out.bk HK2.out (by simp [Value.ownBlock]))
          have HSJ := Lib.hid (hgr.out.bk HS2.out (by simp [Value.ownBlock]))
          have hwj := hgr.out.kp.size
          by_cases hlt : j < sc
          · have HLE := Lib.hid (Msgs_le_snoc mc j)
            have HBV := Lib.hid (byteV_shr8 mc j)
            have hle := Oct.le_length mc j
            have hQl : (P ++ Oct.le mc j).length ≤ 1040 := by rw [List.length_append, hle]; omega
            obtain ⟨Q, hQ⟩ : ∃ Q, Q = P ++ Oct.le mc j := ⟨_, rfl⟩
            rw [← hQ] at hob hQl
            have HQ := Lib.hid hQ
            clear hQ hle
            have m2 : wr.cell? ⟨w.heap.size, 2, none⟩ = some (.int .u32 (mc : Int)) := by rw [HKJ.out.1.cell, HMS.out]; rfl
            go_wp2_with (at_builtin; refine wpList_app _ rfl (.tmp 57) (.tmp 65) _ rfl w2.heap.size 5 i0 _ 1 1 Try.underlying22 Hi.out Hz.out Hz1.out Hz2.out rfl (by decide) u3 Q.length (Q.map byteV) rfl (own_below hob.out (Joins.below_alloc1 _ _)) (some ⟨wr.heap.size, 0, none⟩) 1 1 [.int .u8 ((mc : Int) / 2 ^ (8 * j) % 256)] rfl rfl (Src.one _ _ _) (fun u hu => by rw [List.mem_singleton.1 hu]; rfl) (by unfold maxLen; omega) (by omega) (by simp; omega) ?_; intro v6 w6 hrow6 hg6 hat6)
            go_roundw
            case rel =>
              refine ⟨j + 1, by omega, by go_num, Lib.hid ?_, Lib.hid (hgr.out.trans ((Grw.of_below (Joins.below_alloc1 _ _) _).trans (Grw.of_app hg6 hat6)))⟩
              have := own_app hrow6 (show _ = [UInt8.ofNat (mc / 256 ^ j)].map byteV from congrArg (fun u => [u]) HBV.out) rfl
              rw [HLE.out, ← List.append_assoc, ← HQ.out]
              exact this
            case measure => simp [intOf]; omega
          · obtain rfl : j = sc := by omega
            obtain ⟨P1, hP1⟩ : ∃ P1, P1 = P ++ Oct.le mc j := ⟨_, rfl⟩
            rw [← hP1] at hob
            have HQ1 := Lib.hid hP1
            have hpl1 : P1.length ≤ 1030 := by rw [hP1, List.length_append, Oct.le_length]; omega
            have HOB3 := hob
            have HGR3 := hgr
            clear hP1 hob hgr HOB HGR HKR HSR
            have s2 : wr.cell? ⟨g5, 2, none⟩ = some (.int .i64 (sn : Int)) := by rw [HSJ.out.1.cell, HSH.out]; rfl
            go_wp2_with fail
            go_loopw [3, 70] (fun v i wr => ∃ j : Nat, j ≤ sn ∧ i = .int .i64 (j : Int) ∧ Hid (OwnB wr w2.heap.size v (P1 ++ Oct.le mn j)) ∧ Hid (Grw w2 wr (.slice none 0 0) v)) (fun _ i _ => sn - (intOf i).toNat)
            case atStart => exact ⟨0, Nat.zero_le _, rfl, Lib.hid (by simpa [Oct.le] using HOB3.out), HGR3⟩
            case round =>
              obtain ⟨j, hj, rfl, hob, hgr⟩ := hrel
              have HKJ := Lib.hid (hgr.out.bk HK2.out (by simp [Value.ownBlock]))
              have HSJ := Lib.hid (hgr.out.bk HS2.out (by simp [Value.ownBlock]))
              have hwj := hgr.out.kp.size
              by_cases hlt : j < sn
              · have HLE := Lib.hid (Msgs_le_snoc mn j)
                have HBV := Lib.hid (byteV_shr8 mn j)
                have hle := Oct.le_length mn j
                have hQl : (P1 ++ Oct.le mn j).length ≤ 1040 := by rw [List.length_append, hle]; omega
                obtain ⟨Q, hQ⟩ : ∃ Q, Q = P1 ++ Oct.le mn j := ⟨_, rfl⟩
                rw [← hQ] at hob hQl
                have HQ := Lib.hid hQ
                clear hQ hle
                have m1 : wr.cell? ⟨w.heap.size, 1, none⟩ = some (.int .u64 (mn : Int)) := by rw [HKJ.out.1.cell, HMS.out]; rfl
                go_wp2_with (at_builtin; refine wpList_app _ rfl (.tmp 73) (.tmp 81) _ rfl w2.heap.size 5 i0 _ 1 1 Try.underlying22 Hi.out Hz.out Hz1.out Hz2.out rfl (by decide) u3 Q.length (Q.map byteV) rfl (own_below hob.out (Joins.below_alloc1 _ _)) (some ⟨wr.heap.size, 0, none⟩) 1 1 [.int .u8 ((mn : Int) / 2 ^ (8 * j) % 256)] rfl rfl (Src.one _ _ _) (fun u hu => by rw [List.mem_singleton.1 hu]; rfl) (by unfold maxLen; omega) (by omega) (by simp; omega) ?_; intro v6 w6 hrow6 hg6 hat6)
                go_roundw
                case rel =>
                  refine ⟨j + 1, by omega, by go_num, Lib.hid ?_, Lib.hid (hgr.out.trans ((Grw.of_below (Joins.below_alloc1 _ _) _).trans (Grw.of_app hg6 hat6)))⟩
                  have := own_app hrow6 (show _ = [UInt8.ofNat (mn / 256 ^ j)].map byteV from congrArg (fun u => [u]) HBV.out) rfl
                  rw [HLE.out, ← List.append_assoc, ← HQ.out]
                  exact this
                case measure => simp [intOf]; omega
              · obtain rfl : j = sn := by omega
                have HEND := Lib.hid (HB2.out.trans ((hgr.out.below (own_nil w2 w2.heap.size) (Nat.le_refl _) (Nat.le_refl _)).mono HB2.out.size))
                have HOZ := hob
                have s0 : wr.cell? ⟨g5, 0, none⟩ = some (.string str) := by rw [HSJ.out.1.cell, HSH.out]; rfl
                clear hob hgr
                go_wp2_with fail
                go_ret3
                have h8 := HOZ.out
                rw [HQ1.out, HPP.out] at h8
                have h9 : OwnB wr w2.heap.size u3 body := by
                  rw [HBODY.out]
                  simpa only [List.append_assoc] using h8
                exact ⟨u3, rfl, own_mono h9 HB2.out.size, HEND.out⟩
/-- a message's command and body -/
def PutOut (w w' : World) (r : List UInt8 × List UInt8 × Int) (e : Ending) : Prop :=
  ∃ v, e = .returned (.tuple #[.string ⟨r.1.toArray⟩, v, .int .i64 r.2.2]) ∧ OwnB w' w.heap.size v r.2.1 ∧ Below w.heap.size w w'
theorem mput_any (m : Msgs.Msg) (A A1 A2 : Option Addr) (c c1 c2 B : Nat) (w : World) (h : MsgAt w B m A c A1 c1 A2 c2) (hB : B ≤ w.heap.size)  :
    Calls Try.prog 14 #[msgV m A c A1 c1 A2 c2] w fun e w' => PutOut w w' (Msgs.put m) e := by
  by_cases hE : Msgs.errOf m = 0
  · cases htx : (Msgs.shp m.kind).tx
    · rw [show Msgs.put m = ((Msgs.shp m.kind).cmd, Msgs.body m, 0) by unfold Msgs.put; rw [if_neg (by simp [hE]), if_neg (by simp [htx])]]
      exact mput_body m A A1 A2 c c1 c2 B w h hB hE htx
    · cases hf : Txs.form m.tx
      · rw [show Msgs.put m = ([], [], 5) by unfold Msgs.put; rw [if_neg (by simp [hE]), if_pos htx, if_neg (by simp [hf])]]
        exact (mput_tx_no m A A1 A2 c c1 c2 B w h hB hE htx hf).mono fun e w' ⟨he, hb⟩ => ⟨.slice none 0 0, he, own_nil _ _, hb⟩
      · rw [show Msgs.put m = ((Msgs.shp m.kind).cmd, Txs.bytes m.tx, 0) by unfold Msgs.put; rw [if_neg (by simp [hE]), if_pos htx, if_pos hf]]
        exact mput_tx_yes m A A1 A2 c c1 c2 B w h hB hE htx hf
  · rw [show Msgs.put m = ([], [], Msgs.errOf m) by unfold Msgs.put; rw [if_pos hE]]
    exact (mput_bad m A A1 A2 c c1 c2 B w h hB hE).mono fun e w' ⟨he, hb⟩ => ⟨.slice none 0 0, he, own_nil _ _, hb⟩
end Go.Proofs.Ytanjlgkbjcienaa.M8
