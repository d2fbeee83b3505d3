/- What an item of a lane brings. -/
import Derived.Test.YtpacgblddeoheaaDoorPr
import Derived.Test.YtpacgblddeoheaaDoorMsgX
namespace Go.Proofs.YtpacgblddeoheaaDoor.P22
open Go.RowKit Go.Deep M8 T7
set_option linter.unusedVariables false
set_option linter.unusedSimpArgs false
set_option maxRecDepth 100000
set_option maxHeartbeats 2000000
attribute [local go_sem ↓] Go.wp_at_zero Go.wp_at_succ

/-- what came: a message, or what was wrong -/
structure In where
  msg : Msgs.Msg
  err : Int
def laneOf (k : Int) : Int := if k = 9 then 1 else 0
def came (lane : Int) (it : Flo.Item) : In :=
  if it.err ≠ 0 then ⟨Msgs.none, it.err⟩
  else if (Msgs.get it.cmd it.body).2 ≠ 0 then ⟨Msgs.none, (Msgs.get it.cmd it.body).2⟩
  else if laneOf (Msgs.get it.cmd it.body).1.kind ≠ lane then ⟨Msgs.none, 21⟩ else ⟨(Msgs.get it.cmd it.body).1, 0⟩
def inCells (x : In) (I i o : Value) : Array Value := #[.int .i64 x.msg.kind, .int .u64 (x.msg.n : Int), .int .u32 (x.msg.code : Int), I, .int .u32 (x.msg.tx.version : Int), i, o, .int .i64 x.err]
theorem size_in : (Tryd.prog.info? 76).map (·.size) = some 8 := by kernel_rfl
theorem size_rin : (Tryd.prog.info? 86).map (·.size) = some 8 := by kernel_rfl
theorem in_info : (Tryd.prog.info? 76).map (fun i => (i.zero, i.size, i.bytes)) = some (some (.agg #[.int .i64 0, .int .u64 0, .int .u32 0, .slice none 0 0, .int .u32 0, .slice none 0 0, .slice none 0 0, .int .i64 0]), 8, 112) := by kernel_rfl
theorem rin_info : (Tryd.prog.info? 86).map (fun i => (i.zero, i.size, i.bytes)) = some (some (.agg #[.int .i64 0, .int .u64 0, .int .u32 0, .slice none 0 0, .int .u32 0, .slice none 0 0, .slice none 0 0, .int .i64 0]), 8, 112) := by kernel_rfl
theorem built_err (e : Int) : Tryd.prog.built 76 [(1, .int .i64 e)] = some (inCells ⟨Msgs.none, e⟩ (.slice none 0 0) (.slice none 0 0) (.slice none 0 0)) := by kernel_rfl
theorem built_msg (m : Msgs.Msg) (A : Option Addr) (c : Nat) (A1 : Option Addr) (c1 : Nat) (A2 : Option Addr) (c2 : Nat) : Tryd.prog.built 76 [(0, M8.msgV m A c A1 c1 A2 c2)] = some (inCells ⟨m, 0⟩ (.slice A m.ids.length c) (.slice A1 m.tx.ins.length c1) (.slice A2 m.tx.outs.length c2)) := by kernel_rfl
theorem inCells_one (x : In) (A : Option Addr) (n c : Nat) (A1 : Option Addr) (n1 c1 : Nat) (A2 : Option Addr) (n2 c2 : Nat) : (inCells x (.slice A n c) (.slice A1 n1 c1) (.slice A2 n2 c2)).all (·.oneCell') = true := by simp [inCells, Value.oneCell']
def CameOut (w : World) (x : In) (e : Ending) (w' : World) : Prop :=
  ∃ A c A1 c1 A2 c2, e = .returned (.agg (inCells x (.slice A x.msg.ids.length c) (.slice A1 x.msg.tx.ins.length c1) (.slice A2 x.msg.tx.outs.length c2))) ∧ MsgNew w.heap.size w' x.msg A c A1 c1 A2 c2 ∧ Below w.heap.size w w'
theorem CameOut.bad (w w' : World) (e : Int) (hb : Below w.heap.size w w') : CameOut w ⟨Msgs.none, e⟩ (.returned (.agg (inCells ⟨Msgs.none, e⟩ (.slice none 0 0) (.slice none 0 0) (.slice none 0 0)))) w' :=
  ⟨none, 0, none, 0, none, 0, rfl, none_new _ _, hb⟩
theorem came_any (lane : Int) (it : Flo.Item) (A : Option Addr) (n c B : Nat) (w : World) (hl : it.body.length = n) (hat : BytesAt w B A it.body) (hB : B ≤ w.heap.size) (hc : n ≤ c) (hm : c ≤ maxLen) (hn : n ≤ 140737488351232) :
    Calls Tryd.prog 33 #[.int .i64 lane, .agg (itemCells it (.slice A n c)).toArray] w (CameOut w (came lane it)) := by
  have HG := Lib.hid (fun W (h1 : Below B w W) (h2 : B ≤ W.heap.size) => M8.get_any ⟨it.cmd.toArray⟩ A n c B it.body W hl hc hm hn (At.below hat h1) h2)
  obtain ⟨r, hr⟩ : ∃ r, r = Msgs.get it.cmd it.body := ⟨_, rfl⟩
  rw [show (⟨it.cmd.toArray⟩ : ByteArray).data.toList = it.cmd by simp, ← hr] at HG
  obtain ⟨x, hx⟩ : ∃ x, x = came lane it := ⟨_, rfl⟩
  rw [← hx]
  unfold came at hx
  rw [← hr] at hx
  unfold itemCells
  obtain ⟨cmd, hcmd⟩ : ∃ cmd : ByteArray, cmd = ⟨it.cmd.toArray⟩ := ⟨_, rfl⟩
  obtain ⟨er, her⟩ : ∃ er, er = it.err := ⟨_, rfl⟩
  rw [← hcmd] at HG
  rw [← hcmd, ← her]
  rw [← her] at hx
  obtain ⟨m, e2⟩ := r
  simp only at hx HG
  have HXX := Lib.hid hx
  obtain ⟨w1, hw1⟩ : ∃ w1, w1 = (w.alloc (.cells #[.string cmd, .slice A n c, .int .i64 er] 90)).alloc (.cells #[.int .i64 0, .int .u64 0, .int .u32 0, .slice none 0 0, .int .u32 0, .slice none 0 0, .slice none 0 0, .int .i64 0] 76) := ⟨_, rfl⟩
  have HR1 := Lib.hid (show Bk w1 (w.heap.size + 1) 76 #[.int .i64 0, .int .u64 0, .int .u32 0, .slice none 0 0, .int .u32 0, .slice none 0 0, .slice none 0 0, .int .i64 0] by
    have := Bk.new (w.alloc (.cells #[.string cmd, .slice A n c, .int .i64 er] 90)) 76 #[.int .i64 0, .int .u64 0, .int .u32 0, .slice none 0 0, .int .u32 0, .slice none 0 0, .slice none 0 0, .int .i64 0]
    rw [hw1]
    rwa [show (w.alloc (.cells #[.string cmd, .slice A n c, .int .i64 er] 90)).heap.size = w.heap.size + 1 by simp] at this)
  have HI1 := Lib.hid (show Bk w1 w.heap.size 90 #[.string cmd, .slice A n c, .int .i64 er] by rw [hw1]; exact (Bk.new _ _ _).alloc _)
  have HB1 := Lib.hid (show Below w.heap.size w w1 by rw [hw1]; exact Joins.below_alloc2 _ _ _)
  have hz1 : w.heap.size + 1 < w1.heap.size := HR1.out.lt
  have i0 : w1.cell? ⟨w.heap.size, 0, none⟩ = some (.string cmd) := (HI1.out.cell 0).trans rfl
  have i1 : w1.cell? ⟨w.heap.size, 1, none⟩ = some (.slice A n c) := (HI1.out.cell 1).trans rfl
  have i2 : w1.cell? ⟨w.heap.size, 2, none⟩ = some (.int .i64 er) := (HI1.out.cell 2).trans rfl
  clear hl hat hx hr hcmd her
  go_enter Tryd.func33, Tryd.ntmps33
  go_upto_region 1 with (fail)
  rw [← hw1]
  clear hw1
  by_cases he : er = 0
  · have HXE := Lib.hid (show x = if e2 ≠ 0 then ⟨Msgs.none, e2⟩ else if laneOf m.kind ≠ lane then ⟨Msgs.none, 21⟩ else ⟨m, 0⟩ by rw [HXX.out, if_neg (by simp [he])])
    subst he
    go_wp2_with fail
    refine (HG.out w1 (HB1.out.mono hB) (by omega)).mono ?_
    rintro e w2 ⟨Ai, ci, A1, c1, A2, c2, rfl, hnew, hb2⟩
    obtain ⟨mm, hmm⟩ : ∃ mm, M8.msgV m Ai ci A1 c1 A2 c2 = .agg mm := ⟨_, rfl⟩
    have HML := Lib.hid (msgV_cells hmm).1
    have HMO := Lib.hid (msgV_cells hmm).2
    have HM0 := Lib.hid (show mm[0]? = some (.int .i64 m.kind) by unfold M8.msgV at hmm; injection hmm with hmm; rw [← hmm]; rfl)
    have HBM := Lib.hid (show Tryd.prog.built 76 [(0, .agg mm)] = some (inCells ⟨m, 0⟩ (.slice Ai m.ids.length ci) (.slice A1 m.tx.ins.length c1) (.slice A2 m.tx.outs.length c2)) by rw [← hmm]; exact built_msg m Ai ci A1 c1 A2 c2)
    obtain ⟨cx, hcx⟩ : ∃ cx, cx = inCells ⟨m, 0⟩ (.slice Ai m.ids.length ci) (.slice A1 m.tx.ins.length c1) (.slice A2 m.tx.outs.length c2) := ⟨_, rfl⟩
    rw [← hcx] at HBM
    have HCX := Lib.hid hcx
    have HCO := Lib.hid (show cx.all (·.oneCell') = true by rw [hcx]; exact inCells_one _ _ _ _ _ _ _ _ _ _)
    have HCS := Lib.hid (show cx.size = 8 by rw [hcx]; rfl)
    rw [hmm]
    have HNEW := Lib.hid hnew
    have HB2 := Lib.hid (HB1.out.trans (hb2.mono HB1.out.size))
    have HR2 := Lib.hid (HR1.out.below hb2 HR1.out.lt)
    have hz2 := hb2.size
    clear hnew hb2 hmm hcx HG HR1 HI1 i0 i1 i2
    go_upto_region 4 with (refine wpList_store_row rfl 51 (.tmp 5) (.tmp 19) rfl w2.heap.size mm (by rfl) (by rfl) 51 _ (Bk.new _ _ _) (by rw [HML.out]; exact size_msg) (by rw [HML.out]; rfl) HMO.out ?_)
    rw [World.setRow_alloc_new]
    obtain ⟨w3, hw3⟩ : ∃ w3, w3 = w2.alloc (.cells mm 51) := ⟨_, rfl⟩
    rw [← hw3]
    have HM3 := Lib.hid (show Bk w3 w2.heap.size 51 mm by rw [hw3]; exact Bk.new _ _ _)
    have HR3 := Lib.hid (show Bk w3 (w.heap.size + 1) 76 #[.int .i64 0, .int .u64 0, .int .u32 0, .slice none 0 0, .int .u32 0, .slice none 0 0, .slice none 0 0, .int .i64 0] by rw [hw3]; exact HR2.out.alloc _)
    have HB3 := Lib.hid (show Below w.heap.size w w3 by rw [hw3]; exact HB2.out.alloc HB2.out.size _)
    have HN3 := Lib.hid (show MsgNew w1.heap.size w3 m Ai ci A1 c1 A2 c2 by
      rw [hw3]
      exact fun wz hz => HNEW.out wz (((Kp.refl _ _).alloc _).trans hz))
    have m0 : w3.cell? ⟨w2.heap.size, 0, none⟩ = some (.int .i64 m.kind) := (HM3.out.cell 0).trans HM0.out
    obtain ⟨gm, hgm⟩ : ∃ gm, gm = w2.heap.size := ⟨_, rfl⟩
    rw [← hgm] at HM3 m0 hz2 ⊢
    clear hw3 hgm HR2 HB2 HNEW HM0
    by_cases h2 : e2 = 0
    · subst h2
      go_wp2_with fail
      refine (M8.lane_any m.kind w3).mono ?_
      rintro e w4 ⟨rfl, rfl⟩
      obtain ⟨ln, hln⟩ : ∃ ln, ln = laneOf m.kind := ⟨_, rfl⟩
      rw [show (if m.kind = 9 then (1 : Int) else 0) = ln by rw [hln]; rfl]
      rw [← hln] at HXE
      clear hln
      by_cases h3 : ln = lane
      · have HXF := Lib.hid (show x = ⟨m, 0⟩ by rw [HXE.out, if_neg (by simp), if_neg (by simp [h3])])
        have h3' : (ln != lane) = false := by rw [bne_eq_false_iff_eq]; exact h3
        clear h3 HXE HXX
        go_wp2_with (first
          | (refine wpList_load_row rfl 51 (.tmp 5) rfl gm (by rfl) 51 mm (0, 0) _ HM3.out Tryd.underlying51 rfl (by rw [HML.out]; exact size_msg) ?_)
          | (refine wpList_built rfl 76 #[(0, .tmp 31)] rfl cx (by simpa [Act.eval, Act.put] using HBM.out) ?_)
          | (refine wpList_store_row rfl 76 (.tmp 4) (.tmp 32) rfl (w.heap.size + 1) cx (by rfl) (by rfl) 76 #[.int .i64 0, .int .u64 0, .int .u32 0, .slice none 0 0, .int .u32 0, .slice none 0 0, .slice none 0 0, .int .i64 0] HR3.out (by rw [HCS.out]; exact size_in) (by rw [HCS.out]; rfl) HCO.out ?_))
        refine bodyPost_ret (results_cell_row rfl _ _ (w.heap.size + 1) 76 cx (0, 0) _ rfl (setRow_heap _ _ _ _ _ _ HR3.out) Tryd.underlying76 rfl (by rw [HCS.out]; exact size_in)) rfl ?_
        have kz : Kp (fun i => i = w.heap.size + 1) w3 (w3.setRow (w.heap.size + 1) cx) := Kp.setRow7 (S := fun i => i = w.heap.size + 1) (Kp.refl _ _) (fun _ => rfl) cx
        rw [HXF.out, HCX.out]
        rw [HCX.out] at kz
        exact ⟨Ai, ci, A1, c1, A2, c2, rfl, fun wz hz => HN3.out wz ((kz.mono (T := fun i => i < w1.heap.size) (fun _ _ h => by omega)).trans_of hz (fun _ _ h => by omega)), below_row HB3.out (by omega) _⟩
      · have HXF := Lib.hid (show x = ⟨Msgs.none, 21⟩ by rw [HXE.out, if_neg (by simp), if_pos h3])
        have h3' : (ln != lane) = true := by rw [bne_iff_ne]; exact h3
        clear h3 HXE HXX
        go_wp2_with (first
          | (refine wpList_built rfl 76 _ rfl _ (by simpa [Act.eval] using built_err 21) ?_)
          | (refine wpList_store_row rfl 76 (.tmp 4) (.tmp 30) rfl (w.heap.size + 1) (inCells ⟨Msgs.none, 21⟩ (.slice none 0 0) (.slice none 0 0) (.slice none 0 0)) (by rfl) (by rfl) 76 #[.int .i64 0, .int .u64 0, .int .u32 0, .slice none 0 0, .int .u32 0, .slice none 0 0, .slice none 0 0, .int .i64 0] HR3.out (by exact size_in) rfl (inCells_one _ _ _ _ _ _ _ _ _ _) ?_))
        refine bodyPost_ret (results_cell_row rfl _ _ (w.heap.size + 1) 76 (inCells ⟨Msgs.none, 21⟩ (.slice none 0 0) (.slice none 0 0) (.slice none 0 0)) (0, 0) _ rfl (setRow_heap _ _ _ _ _ _ HR3.out) Tryd.underlying76 rfl (by exact size_in)) rfl ?_
        rw [HXF.out]
        exact CameOut.bad _ _ _ (below_row HB3.out (by omega) _)
    · have HXF := Lib.hid (show x = ⟨Msgs.none, e2⟩ by rw [HXE.out, if_pos h2])
      have h2' : (e2 != 0) = true := by rw [bne_iff_ne]; exact h2
      clear h2 HXE HXX
      go_wp2_with (first
        | (refine wpList_built rfl 76 _ rfl _ (by simpa [Act.eval] using built_err e2) ?_)
        | (refine wpList_store_row rfl 76 (.tmp 4) (.tmp 24) rfl (w.heap.size + 1) (inCells ⟨Msgs.none, e2⟩ (.slice none 0 0) (.slice none 0 0) (.slice none 0 0)) (by rfl) (by rfl) 76 #[.int .i64 0, .int .u64 0, .int .u32 0, .slice none 0 0, .int .u32 0, .slice none 0 0, .slice none 0 0, .int .i64 0] HR3.out (by exact size_in) rfl (inCells_one _ _ _ _ _ _ _ _ _ _) ?_))
      refine bodyPost_ret (results_cell_row rfl _ _ (w.heap.size + 1) 76 (inCells ⟨Msgs.none, e2⟩ (.slice none 0 0) (.slice none 0 0) (.slice none 0 0)) (0, 0) _ rfl (setRow_heap _ _ _ _ _ _ HR3.out) Tryd.underlying76 rfl (by exact size_in)) rfl ?_
      rw [HXF.out]
      exact CameOut.bad _ _ _ (below_row HB3.out (by omega) _)
  · have HXF := Lib.hid (show x = ⟨Msgs.none, er⟩ by rw [HXX.out, if_pos he])
    have he' : (er != 0) = true := by rw [bne_iff_ne]; exact he
    clear he HXX HG
    go_wp2_with (first
      | (refine wpList_built rfl 76 _ rfl _ (by simpa [Act.eval] using built_err er) ?_)
      | (refine wpList_store_row rfl 76 (.tmp 4) (.tmp 12) rfl (w.heap.size + 1) (inCells ⟨Msgs.none, er⟩ (.slice none 0 0) (.slice none 0 0) (.slice none 0 0)) (by rfl) (by rfl) 76 #[.int .i64 0, .int .u64 0, .int .u32 0, .slice none 0 0, .int .u32 0, .slice none 0 0, .slice none 0 0, .int .i64 0] HR1.out (by exact size_in) rfl (inCells_one _ _ _ _ _ _ _ _ _ _) ?_))
    refine bodyPost_ret (results_cell_row rfl _ _ (w.heap.size + 1) 76 (inCells ⟨Msgs.none, er⟩ (.slice none 0 0) (.slice none 0 0) (.slice none 0 0)) (0, 0) _ rfl (setRow_heap _ _ _ _ _ _ HR1.out) Tryd.underlying76 rfl (by exact size_in)) rfl ?_
    rw [HXF.out]
    exact CameOut.bad _ _ _ (below_row HB1.out (by omega) _)
end Go.Proofs.YtpacgblddeoheaaDoor.P22
