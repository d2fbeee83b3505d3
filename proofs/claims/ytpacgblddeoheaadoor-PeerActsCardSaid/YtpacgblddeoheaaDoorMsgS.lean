/- MsgS, merged: MsgShape, MsgChecked. -/
import Derived.Test.YtpacgblddeoheaaDoorMsgM
import Derived.Test.YtpacgblddeoheaaDoorTxSame2
import Derived.Deep.DeepCutAuto
/- Package msg: what a kind's body has. -/
namespace Go.Proofs.YtpacgblddeoheaaDoor.M8
open Go.RowKit Go.Deep T7
set_option linter.unusedVariables false
set_option linter.unusedSimpArgs false
set_option maxRecDepth 100000
attribute [local go_sem ↓] Go.wp_at_zero Go.wp_at_succ

def shapeCells (s : Msgs.Shape) : Array Value := #[.string ⟨s.cmd.toArray⟩, .int .i64 (s.code : Int), .int .i64 (s.n : Int), .int .u32 (s.most : Int), .int .i64 (s.ids : Int), .bool s.count, .bool s.tx]
theorem size_shape : (Tryd.prog.info? 145).map (·.size) = some 7 := by kernel_rfl
theorem shape_cells {w : World} {g : Nat} {T : TypeId} {s : Msgs.Shape} (h : Bk w g T (shapeCells s)) :
    w.cell? ⟨g, 0, none⟩ = some (.string ⟨s.cmd.toArray⟩) ∧ w.cell? ⟨g, 1, none⟩ = some (.int .i64 (s.code : Int)) ∧ w.cell? ⟨g, 2, none⟩ = some (.int .i64 (s.n : Int)) ∧ w.cell? ⟨g, 3, none⟩ = some (.int .u32 (s.most : Int)) ∧
    w.cell? ⟨g, 4, none⟩ = some (.int .i64 (s.ids : Int)) ∧ w.cell? ⟨g, 5, none⟩ = some (.bool s.count) ∧ w.cell? ⟨g, 6, none⟩ = some (.bool s.tx) :=
  ⟨(h.cell 0).trans rfl, (h.cell 1).trans rfl, (h.cell 2).trans rfl, (h.cell 3).trans rfl, (h.cell 4).trans rfl, (h.cell 5).trans rfl, (h.cell 6).trans rfl⟩
theorem shapes_yes (k : Int) (hk : Msgs.known k = true) (w : World) : Calls Tryd.prog 74 #[.int .i64 k] w fun e w' => e = .returned (.tuple #[.agg (shapeCells (Msgs.shp k)), .bool true]) ∧ Below w.heap.size w w' := by
  rcases Msgs.known_cases hk with rfl | rfl | rfl | rfl | rfl | rfl | rfl | rfl | rfl | rfl | rfl
  all_goals
    clear hk
    go_enter Tryd.func74, Tryd.ntmps74
    go_wp2_with fail
    exact bodyPost_ret (results_row_tmp rfl _ _ w.heap.size 145 _ (0, 0) _ rfl (Bk.new _ _ _) Tryd.underlying145 rfl (by exact size_shape) (.bool true) (by rfl)) rfl ⟨rfl, Joins.below_alloc1 _ _⟩
theorem shapes_no (k : Int) (hk : Msgs.known k = false) (w : World) : Calls Tryd.prog 74 #[.int .i64 k] w fun e w' => e = .returned (.tuple #[.agg (shapeCells (Msgs.shp k)), .bool false]) ∧ Below w.heap.size w w' := by
  have hn : ¬ (1 ≤ k ∧ k ≤ 11) := by simpa [Msgs.known] using hk
  rw [Msgs.unknown_shp hk]
  have k1 : (k == 1) = false := by rw [beq_eq_false_iff_ne]; omega
  have k2 : (k == 2) = false := by rw [beq_eq_false_iff_ne]; omega
  have k3 : (k == 3) = false := by rw [beq_eq_false_iff_ne]; omega
  have k4 : (k == 4) = false := by rw [beq_eq_false_iff_ne]; omega
  have k5 : (k == 5) = false := by rw [beq_eq_false_iff_ne]; omega
  have k6 : (k == 6) = false := by rw [beq_eq_false_iff_ne]; omega
  have k7 : (k == 7) = false := by rw [beq_eq_false_iff_ne]; omega
  have k8 : (k == 8) = false := by rw [beq_eq_false_iff_ne]; omega
  have k9 : (k == 9) = false := by rw [beq_eq_false_iff_ne]; omega
  have k10 : (k == 10) = false := by rw [beq_eq_false_iff_ne]; omega
  have k11 : (k == 11) = false := by rw [beq_eq_false_iff_ne]; omega
  clear hn hk
  go_enter Tryd.func74, Tryd.ntmps74
  go_wp2_with fail
  exact bodyPost_ret (results_row_tmp rfl _ _ w.heap.size 145 _ (0, 0) _ rfl (Bk.new _ _ _) Tryd.underlying145 rfl (by exact size_shape) (.bool false) (by rfl)) rfl ⟨rfl, Joins.below_alloc1 _ _⟩
theorem shapes_any (k : Int) (w : World) : Calls Tryd.prog 74 #[.int .i64 k] w fun e w' => e = .returned (.tuple #[.agg (shapeCells (Msgs.shp k)), .bool (Msgs.known k)]) ∧ Below w.heap.size w w' := by
  cases hk : Msgs.known k
  · exact shapes_no k hk w
  · exact shapes_yes k hk w
end Go.Proofs.YtpacgblddeoheaaDoor.M8
/- Package msg: what may not be of a message. -/
namespace Go.Proofs.YtpacgblddeoheaaDoor.M8
open Go.RowKit Go.Deep T7
set_option linter.unusedVariables false
set_option linter.unusedSimpArgs false
set_option maxRecDepth 100000
attribute [local go_sem ↓] Go.wp_at_zero Go.wp_at_succ

def shapeRow (str : ByteArray) (sc sn sm si : Int) (sq sx : Bool) : Array Value := #[.string str, .int .i64 sc, .int .i64 sn, .int .u32 sm, .int .i64 si, .bool sq, .bool sx]
theorem shapeRow_of (s : Msgs.Shape) : shapeCells s = shapeRow ⟨s.cmd.toArray⟩ s.code s.n s.most s.ids s.count s.tx := rfl
theorem row_cells {w : World} {g : Nat} {T : TypeId} {str : ByteArray} {sc sn sm si : Int} {sq sx : Bool} (h : Bk w g T (shapeRow str sc sn sm si sq sx)) :
    w.cell? ⟨g, 0, none⟩ = some (.string str) ∧ w.cell? ⟨g, 1, none⟩ = some (.int .i64 sc) ∧ w.cell? ⟨g, 2, none⟩ = some (.int .i64 sn) ∧ w.cell? ⟨g, 3, none⟩ = some (.int .u32 sm) ∧
    w.cell? ⟨g, 4, none⟩ = some (.int .i64 si) ∧ w.cell? ⟨g, 5, none⟩ = some (.bool sq) ∧ w.cell? ⟨g, 6, none⟩ = some (.bool sx) :=
  ⟨(h.cell 0).trans rfl, (h.cell 1).trans rfl, (h.cell 2).trans rfl, (h.cell 3).trans rfl, (h.cell 4).trans rfl, (h.cell 5).trans rfl, (h.cell 6).trans rfl⟩
/-- what came of a row's store behind new memory -/
theorem below_row {w w' : World} (hb : Below w.heap.size w w') {g : Nat} (hg : w.heap.size ≤ g) (cs : Array Value) : Below w.heap.size w (w'.setRow g cs) := below_setRow hb hg cs
theorem misfit_bool (m : Msgs.Msg) : Msgs.misfit m = ((((Msgs.shp m.kind).n : Int) == 0 && (m.n : Int) != 0) || (((Msgs.shp m.kind).code : Int) == 0 && (m.code : Int) != 0) || (((Msgs.shp m.kind).ids : Int) == 0 && !(decide (m.ids.length = 0))) || (!(Msgs.shp m.kind).tx && !(decide (m.tx = Txs.none)))) := by
  have e0 : ∀ a : Nat, ((a : Int) == 0) = decide (a = 0) := fun a => by rw [Bool.eq_iff_iff]; simp
  have e1 : ∀ a : Nat, ((a : Int) != 0) = decide (a ≠ 0) := fun a => by rw [Bool.eq_iff_iff]; simp
  unfold Msgs.misfit
  simp only [e0, e1, ne_eq, decide_not]
set_option maxHeartbeats 4000000 in
theorem checked_any (m : Msgs.Msg) (A A1 A2 : Option Addr) (c c1 c2 B : Nat) (w : World) (h : MsgAt w B m A c A1 c1 A2 c2) (hB : B ≤ w.heap.size) :
    Calls Tryd.prog 64 #[msgV m A c A1 c1 A2 c2] w fun e w' => e = .returned (.tuple #[.agg (shapeCells (Msgs.shp m.kind)), .int .i64 (Msgs.errOf m)]) ∧ Below w.heap.size w w' := by
  have HSAME := Lib.hid (fun W (hb : Below w.heap.size w W) => same7_any m.tx Txs.none A1 A2 none none c1 c2 0 0 B 0 W (h.tx.below (hb.mono hB)) (none_tx W 0) (Nat.le_trans hB hb.size) (Nat.zero_le _))
  have HS := Lib.hid (fun w => shapes_any m.kind w)
  have HM := Lib.hid (misfit_bool m)
  have HE := Lib.hid (show Msgs.errOf m = if Msgs.known m.kind = false then 2 else if Msgs.misfit m = true then 2 else if (0 : Int) < ((Msgs.shp m.kind).ids : Int) ∧ m.ids.length = 0 then 9 else if ((Msgs.shp m.kind).ids : Int) < (m.ids.length : Int) then 5 else if ((Msgs.shp m.kind).most : Int) < (m.code : Int) then 3 else 0 by
    unfold Msgs.errOf
    simp only [Int.natCast_pos, Int.ofNat_lt])
  have HSH := Lib.hid (shapeRow_of (Msgs.shp m.kind))
  unfold msgV at HSAME ⊢
  unfold txV at HSAME
  simp only [show (Txs.none.version : Int) = 0 from rfl, show Txs.none.ins.length = 0 from rfl, show Txs.none.outs.length = 0 from rfl] at HSAME
  obtain ⟨r, hr⟩ : ∃ r, r = Msgs.errOf m := ⟨_, rfl⟩
  rw [← hr] at HE ⊢
  clear hr h
  generalize decide (m.tx = Txs.none) = same at *
  generalize Msgs.misfit m = mis at *
  generalize Msgs.known m.kind = kn at *
  generalize Msgs.shp m.kind = s at *
  generalize m.kind = k at *
  generalize (m.n : Int) = mn at *
  generalize (m.code : Int) = mc at *
  generalize m.ids.length = n at *
  generalize (m.tx.version : Int) = ver at *
  generalize m.tx.ins.length = ni at *
  generalize m.tx.outs.length = no at *
  obtain ⟨cs, hcs⟩ : ∃ cs, cs = shapeCells s := ⟨_, rfl⟩
  rw [← hcs] at HS ⊢
  rw [← hcs] at HSH
  generalize (s.ids : Int) = si at *
  generalize (s.n : Int) = sn at *
  generalize (s.code : Int) = sc at *
  generalize (s.most : Int) = sm at *
  generalize s.tx = sx at *
  generalize s.count = sq at *
  generalize (⟨s.cmd.toArray⟩ : ByteArray) = str at *
  have HCS := Lib.hid (show cs.size = 7 by rw [HSH.out]; rfl)
  have HC1 := Lib.hid (show cs.all (·.oneCell') = true by rw [HSH.out]; simp [shapeRow, Value.oneCell'])
  obtain ⟨zs, hzs⟩ : ∃ zs, zs = shapeRow ⟨#[]⟩ 0 0 0 0 false false := ⟨_, rfl⟩
  have HZS := Lib.hid (show zs.size = 7 by rw [hzs]; rfl)
  obtain ⟨ms, hms⟩ : ∃ ms : Array Value, ms = #[.int .i64 k, .int .u64 mn, .int .u32 mc, .slice A n c, .int .u32 ver, .slice A1 ni c1, .slice A2 no c2] := ⟨_, rfl⟩
  have HMS := Lib.hid hms
  obtain ⟨w0, hw0⟩ : ∃ w0, w0 = (w.alloc (.cells ms 51)).alloc (.cells zs 145) := ⟨_, rfl⟩
  have hw0' := hw0
  rw [hms, hzs] at hw0'
  unfold shapeRow at hw0'
  have HK0 := Lib.hid (show Bk w0 w.heap.size 51 ms by rw [hw0]; exact (Bk.new _ _ _).alloc _)
  have HR0 := Lib.hid (show Bk w0 (w.heap.size + 1) 145 zs by
    rw [hw0]
    have := Bk.new (w.alloc (.cells ms 51)) 145 zs
    rwa [show (w.alloc (.cells ms 51)).heap.size = w.heap.size + 1 by simp] at this)
  have HB0 := Lib.hid (show Below w.heap.size w w0 by rw [hw0]; exact (Joins.below_alloc1 _ _).alloc (by simp) _)
  have HZ0 := Lib.hid (show w0.heap.size = w.heap.size + 2 by rw [hw0]; simp)
  clear hcs hms hzs hw0
  go_enter Tryd.func64, Tryd.ntmps64
  go_wp2_with fail
  rw [← hw0']
  clear hw0'
  refine (HS.out _).mono ?_
  rintro e w1 ⟨rfl, hb1⟩
  have HK1 := Lib.hid (HK0.out.below hb1 (by rw [HZ0.out]; omega))
  have HR1 := Lib.hid (HR0.out.below hb1 (by rw [HZ0.out]; omega))
  have HB1 := Lib.hid (HB0.out.trans (hb1.mono HB0.out.size))
  have hz1 : w.heap.size + 2 ≤ w1.heap.size := by have := hb1.size; rw [HZ0.out] at this; exact this
  clear hb1 HK0 HR0 HB0 HZ0 HS
  go_upto_region 2 with (refine wpList_store_row rfl 145 (.tmp 4) (.tmp 10) rfl w1.heap.size cs (by rfl) (by rfl) 145 _ (Bk.new _ _ _) (by rw [HCS.out]; exact size_shape) (by rw [HCS.out]; rfl) HC1.out ?_)
  rw [World.setRow_alloc_new]
  obtain ⟨w2, hw2⟩ : ∃ w2, w2 = w1.alloc (.cells cs 145) := ⟨_, rfl⟩
  rw [← hw2]
  have HS4 := Lib.hid (show Bk w2 w1.heap.size 145 cs by rw [hw2]; exact Bk.new _ _ _)
  have HK2 := Lib.hid (show Bk w2 w.heap.size 51 ms by rw [hw2]; exact HK1.out.alloc _)
  have HR2 := Lib.hid (show Bk w2 (w.heap.size + 1) 145 zs by rw [hw2]; exact HR1.out.alloc _)
  have HB2 := Lib.hid (show Below w.heap.size w w2 by rw [hw2]; exact HB1.out.alloc HB1.out.size _)
  obtain ⟨g4, hg4⟩ : ∃ g4, g4 = w1.heap.size := ⟨_, rfl⟩
  rw [← hg4] at HS4 ⊢
  clear hw2 hg4 hz1 HK1 HR1 HB1
  cases kn
  · have HX := Lib.hid (show r = 2 by rw [HE.out]; rfl)
    go_wp2_with (first
      | (refine wpList_load_row rfl 145 (.tmp 4) rfl g4 (by rfl) 145 cs (0, 0) _ HS4.out Tryd.underlying145 rfl (by rw [HCS.out]; exact size_shape) ?_)
      | (refine wpList_store_row rfl 145 _ _ rfl (w.heap.size + 1) cs (by rfl) (by rfl) 145 zs HR2.out (by rw [HCS.out]; exact size_shape) (by rw [HCS.out]; exact HZS.out) HC1.out ?_))
    exact bodyPost_ret (results_row_tmp rfl _ _ (w.heap.size + 1) 145 cs (0, 0) _ rfl (setRow_heap _ _ _ _ _ _ HR2.out) Tryd.underlying145 rfl (by rw [HCS.out]; exact size_shape) (.int .i64 2) (by rfl)) rfl ⟨by rw [HX.out], below_row HB2.out (by omega) cs⟩
  have HE' := Lib.hid (show r = if mis = true then 2 else if (0 : Int) < si ∧ n = 0 then 9 else if si < (n : Int) then 5 else if sm < mc then 3 else 0 from HE.out)
  obtain ⟨s0, s1, s2, s3, s4, s5, s6⟩ := row_cells (by have := HS4.out; rw [HSH.out] at this; exact this)
  have m1 : w2.cell? ⟨w.heap.size, 1, none⟩ = some (.int .u64 mn) := by rw [HK2.out.cell, HMS.out]; rfl
  have m2 : w2.cell? ⟨w.heap.size, 2, none⟩ = some (.int .u32 mc) := by rw [HK2.out.cell, HMS.out]; rfl
  have m3 : w2.cell? ⟨w.heap.size, 3, none⟩ = some (.slice A n c) := by rw [HK2.out.cell, HMS.out]; rfl
  have m4 : w2.cell? ⟨w.heap.size, 4, none⟩ = some (.int .u32 ver) := by rw [HK2.out.cell, HMS.out]; rfl
  have m5 : w2.cell? ⟨w.heap.size, 5, none⟩ = some (.slice A1 ni c1) := by rw [HK2.out.cell, HMS.out]; rfl
  have m6 : w2.cell? ⟨w.heap.size, 6, none⟩ = some (.slice A2 no c2) := by rw [HK2.out.cell, HMS.out]; rfl
  clear HE
  go_upto_region 4 with (fail)
  go_cut [55] (fun u55 wx => u55 = .bool mis ∧ Below w2.heap.size w2 wx)
  case first =>
    have hA : ((sn == 0) = true ∧ (mn != 0) = true) ∨ ((sn == 0) = true ∧ (mn != 0) = false) ∨ (sn == 0) = false := by cases (sn == 0) <;> cases (mn != 0) <;> simp
    have hBB : ((sc == 0) = true ∧ (mc != 0) = true) ∨ ((sc == 0) = true ∧ (mc != 0) = false) ∨ (sc == 0) = false := by cases (sc == 0) <;> cases (mc != 0) <;> simp
    have hC : ((si == 0) = true ∧ ((n : Int) != 0) = true ∧ 0 < (n : Int) ∧ n ≠ 0) ∨ ((si == 0) = true ∧ n = 0) ∨ (si == 0) = false := by
      cases (si == 0)
      · exact .inr (.inr rfl)
      · rcases Nat.eq_zero_or_pos n with h | h
        · exact .inr (.inl ⟨rfl, h⟩)
        · exact .inl ⟨rfl, by rw [bne_iff_ne]; omega, by omega, by omega⟩
    rcases hA with ⟨a1, a2⟩ | ⟨a1, a2⟩ | a1
    · go_wp2_with fail
      go_meet
      exact ⟨by rw [HM.out]; simp [a1, a2], Below.refl _ _⟩
    · rcases hBB with ⟨b1, b2⟩ | ⟨b1, b2⟩ | b1
      · go_wp2_with fail
        go_meet
        exact ⟨by rw [HM.out]; simp [a1, a2, b1, b2], Below.refl _ _⟩
      · rcases hC with ⟨c1, c2, c3, c4⟩ | ⟨c1, c2⟩ | c1
        · go_wp2_with fail
          go_meet
          exact ⟨by rw [HM.out]; simp [a1, a2, b1, b2, c1, c4], Below.refl _ _⟩
        · subst c2
          cases sx
          · go_wp2_with (go_at_call 48; refine (HSAME.out _ HB2.out).mono ?_; rintro e w3 ⟨rfl, hb3⟩)
            go_meet
            exact ⟨by rw [HM.out]; simp [a1, a2, b1, b2, c1], hb3⟩
          · go_wp2_with fail
            go_meet
            exact ⟨by rw [HM.out]; simp [a1, a2, b1, b2, c1], Below.refl _ _⟩
        · cases sx
          · go_wp2_with (go_at_call 48; refine (HSAME.out _ HB2.out).mono ?_; rintro e w3 ⟨rfl, hb3⟩)
            go_meet
            exact ⟨by rw [HM.out]; simp [a1, a2, b1, b2, c1], hb3⟩
          · go_wp2_with fail
            go_meet
            exact ⟨by rw [HM.out]; simp [a1, a2, b1, b2, c1], Below.refl _ _⟩
      · rcases hC with ⟨c1, c2, c3, c4⟩ | ⟨c1, c2⟩ | c1
        · go_wp2_with fail
          go_meet
          exact ⟨by rw [HM.out]; simp [a1, a2, b1, c1, c4], Below.refl _ _⟩
        · subst c2
          cases sx
          · go_wp2_with (go_at_call 48; refine (HSAME.out _ HB2.out).mono ?_; rintro e w3 ⟨rfl, hb3⟩)
            go_meet
            exact ⟨by rw [HM.out]; simp [a1, a2, b1, c1], hb3⟩
          · go_wp2_with fail
            go_meet
            exact ⟨by rw [HM.out]; simp [a1, a2, b1, c1], Below.refl _ _⟩
        · cases sx
          · go_wp2_with (go_at_call 48; refine (HSAME.out _ HB2.out).mono ?_; rintro e w3 ⟨rfl, hb3⟩)
            go_meet
            exact ⟨by rw [HM.out]; simp [a1, a2, b1, c1], hb3⟩
          · go_wp2_with fail
            go_meet
            exact ⟨by rw [HM.out]; simp [a1, a2, b1, c1], Below.refl _ _⟩
    · rcases hBB with ⟨b1, b2⟩ | ⟨b1, b2⟩ | b1
      · go_wp2_with fail
        go_meet
        exact ⟨by rw [HM.out]; simp [a1, b1, b2], Below.refl _ _⟩
      · rcases hC with ⟨c1, c2, c3, c4⟩ | ⟨c1, c2⟩ | c1
        · go_wp2_with fail
          go_meet
          exact ⟨by rw [HM.out]; simp [a1, b1, b2, c1, c4], Below.refl _ _⟩
        · subst c2
          cases sx
          · go_wp2_with (go_at_call 48; refine (HSAME.out _ HB2.out).mono ?_; rintro e w3 ⟨rfl, hb3⟩)
            go_meet
            exact ⟨by rw [HM.out]; simp [a1, b1, b2, c1], hb3⟩
          · go_wp2_with fail
            go_meet
            exact ⟨by rw [HM.out]; simp [a1, b1, b2, c1], Below.refl _ _⟩
        · cases sx
          · go_wp2_with (go_at_call 48; refine (HSAME.out _ HB2.out).mono ?_; rintro e w3 ⟨rfl, hb3⟩)
            go_meet
            exact ⟨by rw [HM.out]; simp [a1, b1, b2, c1], hb3⟩
          · go_wp2_with fail
            go_meet
            exact ⟨by rw [HM.out]; simp [a1, b1, b2, c1], Below.refl _ _⟩
      · rcases hC with ⟨c1, c2, c3, c4⟩ | ⟨c1, c2⟩ | c1
        · go_wp2_with fail
          go_meet
          exact ⟨by rw [HM.out]; simp [a1, b1, c1, c4], Below.refl _ _⟩
        · subst c2
          cases sx
          · go_wp2_with (go_at_call 48; refine (HSAME.out _ HB2.out).mono ?_; rintro e w3 ⟨rfl, hb3⟩)
            go_meet
            exact ⟨by rw [HM.out]; simp [a1, b1, c1], hb3⟩
          · go_wp2_with fail
            go_meet
            exact ⟨by rw [HM.out]; simp [a1, b1, c1], Below.refl _ _⟩
        · cases sx
          · go_wp2_with (go_at_call 48; refine (HSAME.out _ HB2.out).mono ?_; rintro e w3 ⟨rfl, hb3⟩)
            go_meet
            exact ⟨by rw [HM.out]; simp [a1, b1, c1], hb3⟩
          · go_wp2_with fail
            go_meet
            exact ⟨by rw [HM.out]; simp [a1, b1, c1], Below.refl _ _⟩
  case rest =>
    obtain ⟨rfl, hbx⟩ := hcut
    have HB5 := Lib.hid (HB2.out.trans (hbx.mono HB2.out.size))
    have HK5 := Lib.hid (HK2.out.below hbx HK2.out.lt)
    have HR5 := Lib.hid (HR2.out.below hbx HR2.out.lt)
    have HS5 := Lib.hid (HS4.out.below hbx HS4.out.lt)
    clear hbx s0 s1 s2 s3 s4 s5 s6 m1 m2 m3 m4 m5 m6 HK2 HR2 HS4 HB2
    obtain ⟨s0, s1, s2, s3, s4, s5, s6⟩ := row_cells (by have := HS5.out; rw [HSH.out] at this; exact this)
    have m2 : wc.cell? ⟨w.heap.size, 2, none⟩ = some (.int .u32 mc) := by rw [HK5.out.cell, HMS.out]; rfl
    have m3 : wc.cell? ⟨w.heap.size, 3, none⟩ = some (.slice A n c) := by rw [HK5.out.cell, HMS.out]; rfl
    cases mis
    · have HE5 := Lib.hid (show r = if (0 : Int) < si ∧ n = 0 then 9 else if si < (n : Int) then 5 else if sm < mc then 3 else 0 from HE'.out)
      rcases Int.lt_or_le 0 si with f1 | f1
      · rcases Nat.eq_zero_or_pos n with f2 | f2
        · have HX := Lib.hid (show r = 9 by rw [HE5.out, if_pos ⟨f1, f2⟩])
          subst f2
          go_wp2_with (first
            | (refine wpList_load_row rfl 145 (.tmp 4) rfl g4 (by rfl) 145 cs (0, 0) _ HS5.out Tryd.underlying145 rfl (by rw [HCS.out]; exact size_shape) ?_)
            | (refine wpList_store_row rfl 145 _ _ rfl (w.heap.size + 1) cs (by rfl) (by rfl) 145 zs HR5.out (by rw [HCS.out]; exact size_shape) (by rw [HCS.out]; exact HZS.out) HC1.out ?_))
          exact bodyPost_ret (results_row_tmp rfl _ _ (w.heap.size + 1) 145 cs (0, 0) _ rfl (setRow_heap _ _ _ _ _ _ HR5.out) Tryd.underlying145 rfl (by rw [HCS.out]; exact size_shape) (.int .i64 9) (by rfl)) rfl ⟨by rw [HX.out], below_row HB5.out (by omega) cs⟩
        · have f3 : ((n : Int) == 0) = false := by rw [beq_eq_false_iff_ne]; omega
          have h9 : ¬ ((0 : Int) < si ∧ n = 0) := fun h => by omega
          rcases Int.lt_or_le si (n : Int) with d1 | d1
          · have HX := Lib.hid (show r = 5 by rw [HE5.out, if_neg h9, if_pos d1])
            clear h9
            go_wp2_with (first
              | (refine wpList_load_row rfl 145 (.tmp 4) rfl g4 (by rfl) 145 cs (0, 0) _ HS5.out Tryd.underlying145 rfl (by rw [HCS.out]; exact size_shape) ?_)
              | (refine wpList_store_row rfl 145 _ _ rfl (w.heap.size + 1) cs (by rfl) (by rfl) 145 zs HR5.out (by rw [HCS.out]; exact size_shape) (by rw [HCS.out]; exact HZS.out) HC1.out ?_))
            exact bodyPost_ret (results_row_tmp rfl _ _ (w.heap.size + 1) 145 cs (0, 0) _ rfl (setRow_heap _ _ _ _ _ _ HR5.out) Tryd.underlying145 rfl (by rw [HCS.out]; exact size_shape) (.int .i64 5) (by rfl)) rfl ⟨by rw [HX.out], below_row HB5.out (by omega) cs⟩
          · have d2 : ¬ si < (n : Int) := by omega
            rcases Int.lt_or_le sm mc with e1 | e1
            · have HX := Lib.hid (show r = 3 by rw [HE5.out, if_neg h9, if_neg d2, if_pos e1])
              clear h9
              go_wp2_with (first
                | (refine wpList_load_row rfl 145 (.tmp 4) rfl g4 (by rfl) 145 cs (0, 0) _ HS5.out Tryd.underlying145 rfl (by rw [HCS.out]; exact size_shape) ?_)
                | (refine wpList_store_row rfl 145 _ _ rfl (w.heap.size + 1) cs (by rfl) (by rfl) 145 zs HR5.out (by rw [HCS.out]; exact size_shape) (by rw [HCS.out]; exact HZS.out) HC1.out ?_))
              exact bodyPost_ret (results_row_tmp rfl _ _ (w.heap.size + 1) 145 cs (0, 0) _ rfl (setRow_heap _ _ _ _ _ _ HR5.out) Tryd.underlying145 rfl (by rw [HCS.out]; exact size_shape) (.int .i64 3) (by rfl)) rfl ⟨by rw [HX.out], below_row HB5.out (by omega) cs⟩
            · have e2 : ¬ sm < mc := by omega
              have HX := Lib.hid (show r = 0 by rw [HE5.out, if_neg h9, if_neg d2, if_neg e2])
              clear h9
              go_wp2_with (first
                | (refine wpList_load_row rfl 145 (.tmp 4) rfl g4 (by rfl) 145 cs (0, 0) _ HS5.out Tryd.underlying145 rfl (by rw [HCS.out]; exact size_shape) ?_)
                | (refine wpList_store_row rfl 145 _ _ rfl (w.heap.size + 1) cs (by rfl) (by rfl) 145 zs HR5.out (by rw [HCS.out]; exact size_shape) (by rw [HCS.out]; exact HZS.out) HC1.out ?_))
              exact bodyPost_ret (results_row_tmp rfl _ _ (w.heap.size + 1) 145 cs (0, 0) _ rfl (setRow_heap _ _ _ _ _ _ HR5.out) Tryd.underlying145 rfl (by rw [HCS.out]; exact size_shape) (.int .i64 0) (by rfl)) rfl ⟨by rw [HX.out], below_row HB5.out (by omega) cs⟩
      · have f4 : decide ((0 : Int) < si) = false := decide_eq_false (by omega)
        have f5 : ¬ (0 : Int) < si := by omega
        have h9 : ¬ ((0 : Int) < si ∧ n = 0) := fun h => by omega
        rcases Int.lt_or_le si (n : Int) with d1 | d1
        · have HX := Lib.hid (show r = 5 by rw [HE5.out, if_neg h9, if_pos d1])
          clear h9
          go_wp2_with (first
            | (refine wpList_load_row rfl 145 (.tmp 4) rfl g4 (by rfl) 145 cs (0, 0) _ HS5.out Tryd.underlying145 rfl (by rw [HCS.out]; exact size_shape) ?_)
            | (refine wpList_store_row rfl 145 _ _ rfl (w.heap.size + 1) cs (by rfl) (by rfl) 145 zs HR5.out (by rw [HCS.out]; exact size_shape) (by rw [HCS.out]; exact HZS.out) HC1.out ?_))
          exact bodyPost_ret (results_row_tmp rfl _ _ (w.heap.size + 1) 145 cs (0, 0) _ rfl (setRow_heap _ _ _ _ _ _ HR5.out) Tryd.underlying145 rfl (by rw [HCS.out]; exact size_shape) (.int .i64 5) (by rfl)) rfl ⟨by rw [HX.out], below_row HB5.out (by omega) cs⟩
        · have d2 : ¬ si < (n : Int) := by omega
          rcases Int.lt_or_le sm mc with e1 | e1
          · have HX := Lib.hid (show r = 3 by rw [HE5.out, if_neg h9, if_neg d2, if_pos e1])
            clear h9
            go_wp2_with (first
              | (refine wpList_load_row rfl 145 (.tmp 4) rfl g4 (by rfl) 145 cs (0, 0) _ HS5.out Tryd.underlying145 rfl (by rw [HCS.out]; exact size_shape) ?_)
              | (refine wpList_store_row rfl 145 _ _ rfl (w.heap.size + 1) cs (by rfl) (by rfl) 145 zs HR5.out (by rw [HCS.out]; exact size_shape) (by rw [HCS.out]; exact HZS.out) HC1.out ?_))
            exact bodyPost_ret (results_row_tmp rfl _ _ (w.heap.size + 1) 145 cs (0, 0) _ rfl (setRow_heap _ _ _ _ _ _ HR5.out) Tryd.underlying145 rfl (by rw [HCS.out]; exact size_shape) (.int .i64 3) (by rfl)) rfl ⟨by rw [HX.out], below_row HB5.out (by omega) cs⟩
          · have e2 : ¬ sm < mc := by omega
            have HX := Lib.hid (show r = 0 by rw [HE5.out, if_neg h9, if_neg d2, if_neg e2])
            clear h9
            go_wp2_with (first
              | (refine wpList_load_row rfl 145 (.tmp 4) rfl g4 (by rfl) 145 cs (0, 0) _ HS5.out Tryd.underlying145 rfl (by rw [HCS.out]; exact size_shape) ?_)
              | (refine wpList_store_row rfl 145 _ _ rfl (w.heap.size + 1) cs (by rfl) (by rfl) 145 zs HR5.out (by rw [HCS.out]; exact size_shape) (by rw [HCS.out]; exact HZS.out) HC1.out ?_))
            exact bodyPost_ret (results_row_tmp rfl _ _ (w.heap.size + 1) 145 cs (0, 0) _ rfl (setRow_heap _ _ _ _ _ _ HR5.out) Tryd.underlying145 rfl (by rw [HCS.out]; exact size_shape) (.int .i64 0) (by rfl)) rfl ⟨by rw [HX.out], below_row HB5.out (by omega) cs⟩
    · have HX := Lib.hid (show r = 2 from HE'.out)
      go_wp2_with (first
        | (refine wpList_load_row rfl 145 (.tmp 4) rfl g4 (by rfl) 145 cs (0, 0) _ HS5.out Tryd.underlying145 rfl (by rw [HCS.out]; exact size_shape) ?_)
        | (refine wpList_store_row rfl 145 _ _ rfl (w.heap.size + 1) cs (by rfl) (by rfl) 145 zs HR5.out (by rw [HCS.out]; exact size_shape) (by rw [HCS.out]; exact HZS.out) HC1.out ?_))
      exact bodyPost_ret (results_row_tmp rfl _ _ (w.heap.size + 1) 145 cs (0, 0) _ rfl (setRow_heap _ _ _ _ _ _ HR5.out) Tryd.underlying145 rfl (by rw [HCS.out]; exact size_shape) (.int .i64 2) (by rfl)) rfl ⟨by rw [HX.out], below_row HB5.out (by omega) cs⟩
end Go.Proofs.YtpacgblddeoheaaDoor.M8
