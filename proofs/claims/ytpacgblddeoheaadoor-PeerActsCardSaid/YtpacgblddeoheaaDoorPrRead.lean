/- A peer reads: rows of what came. -/
import Derived.Test.YtpacgblddeoheaaDoorPrIn
import Derived.Test.YtpacgblddeoheaaDoorTxBuilt
namespace Go.Proofs.YtpacgblddeoheaaDoor
theorem Flo.item_small (h : Frm.Head) (b : List UInt8) : (Flo.item h b).body.length ≤ b.length := by
  unfold Flo.item
  split
  · simp
  · split <;> simp
theorem Flo.go_small : ∀ (k : Nat) (x : List UInt8), ∀ it ∈ (Flo.go k x).1, it.body.length ≤ 2048
  | 0, x, it, hi => by simp [Flo.go] at hi
  | k + 1, x, it, hi => by
    by_cases h24 : x.length < 24
    · rw [Flo.go_short h24] at hi; simp at hi
    · by_cases he : (Frm.head (x.take 24)).2 = 0
      · by_cases hp : x.length - 24 < (Frm.head (x.take 24)).1.len
        · rw [Flo.go_part (by omega) he hp] at hi; simp at hi
        · rw [Flo.go_whole (by omega) he (by omega)] at hi
          rcases List.mem_cons.1 hi with rfl | hi
          · have h1 := Flo.item_small (Frm.head (x.take 24)).1 ((x.drop 24).take (Frm.head (x.take 24)).1.len)
            rw [List.length_take] at h1
            have h2 := Flo.head_len he
            omega
          · exact Flo.go_small k _ it hi
      · rw [Flo.go_bad (by omega) he] at hi
        simp only [List.mem_singleton] at hi
        rw [hi]; simp
theorem Flo.go_count : ∀ (k : Nat) (x : List UInt8), (Flo.go k x).1.length ≤ k
  | 0, x => by simp [Flo.go]
  | k + 1, x => by
    unfold Flo.go
    simp only
    split
    · simp
    · split
      · simp
      · have := Flo.go_count k (x.drop (Frm.get x).2.2.1)
        simp only [List.length_cons]
        omega
theorem Flo.feed_count (s : List UInt8 × Bool) (b : List UInt8) : (Flo.feed s b).1.length ≤ s.1.length + b.length + 1 := by
  unfold Flo.feed
  split
  · simp
  · have := Flo.go_count ((s.1 ++ b).length + 1) (s.1 ++ b)
    rw [List.length_append] at this
    unfold Flo.run
    rw [List.length_append]
    exact this
theorem Flo.feed_small (s : List UInt8 × Bool) (b : List UInt8) : ∀ it ∈ (Flo.feed s b).1, it.body.length ≤ 2048 := by
  unfold Flo.feed
  split
  · simp
  · exact Flo.go_small _ _
theorem FlowS.small22 {w : World} {F base : Nat} {v : Value} {s : List UInt8 × Bool} (h : FlowS w F base v s) : s.1.length < 2072 := by
  rcases h with ⟨a, b, _⟩ | ⟨a, b, hd, n, c, d, e⟩ | ⟨a, hd, hv, body, b, c, d, e⟩
  · rw [b]; decide
  · rw [d, List.length_take]; omega
  · have := Flo.head_len (b := hd)
    rw [c] at this
    have := this rfl
    have := e.1
    rw [b, List.length_append]; simp only at *; omega
end Go.Proofs.YtpacgblddeoheaaDoor
namespace Go.Proofs.YtpacgblddeoheaaDoor.P22
open Go.RowKit Go.Deep M8 T7
set_option linter.unusedVariables false
set_option linter.unusedSimpArgs false
set_option maxRecDepth 100000
set_option maxHeartbeats 2000000
attribute [local go_sem ↓] Go.wp_at_zero Go.wp_at_succ

/-- what came, with its message's rows; nothing of T touches them -/
abbrev IP := In × Value × Value × Value
def ipCells (p : IP) : List Value := (inCells p.1 p.2.1 p.2.2.1 p.2.2.2).toList
def InPers (T : Nat → Prop) (w : World) (p : IP) : Prop :=
  ∃ A c A1 c1 A2 c2, p.2.1 = .slice A p.1.msg.ids.length c ∧ p.2.2.1 = .slice A1 p.1.msg.tx.ins.length c1 ∧ p.2.2.2 = .slice A2 p.1.msg.tx.outs.length c2 ∧ ∀ W, Kp T w W → MsgAt W W.heap.size p.1.msg A c A1 c1 A2 c2
theorem InPers.step {T T' S : Nat → Prop} {w w' : World} {p : IP} (h : InPers T w p) (k : Kp S w w') (hs : ∀ i, i < w.heap.size → S i → T i) (ht : ∀ i, i < w.heap.size → T' i → T i) : InPers T' w' p := by
  obtain ⟨A, c, A1, c1, A2, c2, h1, h2, h3, h4⟩ := h
  exact ⟨A, c, A1, c1, A2, c2, h1, h2, h3, fun W hW => h4 W ((k.mono hs).trans_of hW ht)⟩
theorem ipCells_len (p : IP) : (ipCells p).length = 8 := rfl
theorem InPers.one {T : Nat → Prop} {w : World} {p : IP} (h : InPers T w p) : ∀ u ∈ ipCells p, u.oneCell' = true := by
  obtain ⟨A, c, A1, c1, A2, c2, h1, h2, h3, _⟩ := h
  intro u hu
  unfold ipCells inCells at hu
  rw [h1, h2, h3] at hu
  simp only [List.mem_cons, List.not_mem_nil, or_false] at hu
  rcases hu with rfl | rfl | rfl | rfl | rfl | rfl | rfl | rfl <;> rfl
def RowIn (T : TypeId) (w : World) (base : Nat) (v : Value) (ps : List IP) : Prop := w.ownsRow base T 8 v ps.length (ps.flatMap ipCells)
/-- what Read leaves -/
def ReadPost (w : World) (F base : Nat) (vb : Value) (lane : Int) (out : Flo.Out) (e : Ending) (w' : World) : Prop :=
  ∃ rv v ps, e = .returned rv ∧ FlowS w' F base v out.2 ∧ (∀ i, v.ownBlock = some i → vb.ownBlock = some i ∨ w.heap.size ≤ i) ∧ RowIn 76 w' w.heap.size rv ps ∧ ps.map (·.1) = out.1.map (came lane) ∧
    (∀ p ∈ ps, InPers (fun i => i < w.heap.size ∨ v.ownBlock = some i ∨ rv.ownBlock = some i) w' p) ∧ (∀ i, rv.ownBlock = some i → v.ownBlock ≠ some i) ∧ Kp (fun i => i = F ∨ vb.ownBlock = some i) w w'
theorem read_any (b k F base c : Nat) (hk2 : k < 2) (A : Option Addr) (bs : List UInt8) (vb : Value) (s : List UInt8 × Bool) (w : World) (hptr : w.cell? ⟨b, 4 + k, none⟩ = some (.pointer (some ⟨F, 0, none⟩))) (hF : F < base) (hbs : base ≤ w.heap.size) (hs : FlowS w F base vb s) (hat : BytesAt w base A bs) (hne : ∀ a, A = some a → 0 < bs.length → a.block ≠ F)
    (hlay : Laid w) (h1 : 1 < base) (h2 : 0 < base) (h3 : 1 ≠ F) (h4 : 0 ≠ F) (hbl : bs.length ≤ 1000000000) (hc : bs.length ≤ c) (hm : c ≤ maxLen) :
    Calls Tryd.prog 10 #[.pointer (some ⟨b, 0, none⟩), .int .i64 (k : Int), .slice A bs.length c] w (ReadPost w F base vb (k : Int) (Flo.feed s bs)) := by
  have HFD := Lib.hid (feed_any F base c A bs vb s w hF hbs hs hat hne hlay h1 h2 h3 h4 hbl hc hm)
  have HSM := Lib.hid (Flo.feed_small s bs)
  have HVB := Lib.hid hs.lt.2
  have HCNT := Lib.hid (show (Flo.feed s bs).1.length ≤ 1000010000 by have := Flo.feed_count s bs; have := hs.small22; omega)
  obtain ⟨out, ho⟩ : ∃ o, o = Flo.feed s bs := ⟨_, rfl⟩
  rw [← ho] at HFD HSM HCNT ⊢
  obtain ⟨m, hmm⟩ : ∃ m, m = bs.length := ⟨_, rfl⟩
  rw [← hmm] at HFD ⊢
  have i1 : (0 : Int) ≤ (k : Int) := by omega
  have i2 : (k : Int) < 2 := by omega
  have i3 : ¬ (2 : Int) ≤ (k : Int) := by omega
  have hz := item_info
  clear hs hat hne hlay hbl hc hm ho hmm hk2
  go_enter Tryd.func10, Tryd.ntmps10
  go_wp2_with fail
  refine HFD.out.mono ?_
  rintro e w2 ⟨vl, rfl, v, hfs, hside⟩
  obtain ⟨Al, cl, hvl, hlc, hlm, hat2⟩ := hside.row.at_
  subst hvl
  obtain ⟨n, hn⟩ : ∃ n, n = out.1.length := ⟨_, rfl⟩
  rw [← hn]
  have HN := Lib.hid hn
  have HFS := Lib.hid hfs
  have HKP := Lib.hid hside.kp
  have HOW := Lib.hid hside.own
  have HAT2 := Lib.hid hat2
  have hz2 := hside.kp.size
  have HVL := Lib.hid (hfs.lt.2)
  have hnm : n ≤ 1000010000 := by rw [hn]; exact HCNT.out
  obtain ⟨ie, hi, hz0, hz1, hz2'⟩ := info_parts in_info
  have Ii := Lib.hid hi
  have Iz := Lib.hid hz0
  have Iz1 := Lib.hid hz1
  have Iz2 := Lib.hid hz2'
  have HZ8 := Lib.hid (show (Tryd.prog.info? 76).map (·.zero) = some (some (.agg #[.int .i64 0, .int .u64 0, .int .u32 0, .slice none 0 0, .int .u32 0, .slice none 0 0, .slice none 0 0, .int .i64 0])) by rw [hi]; exact congrArg some hz0)
  clear hn hfs hside hat2 HFD hz hi hz0 hz1 hz2'
  go_wp2_with fail
  go_loopw [7, 29] (fun rv iv wr => ∃ (j : Nat) (ps : List IP), iv = .int .i64 (j : Int) ∧ j ≤ n ∧ Hid (RowIn 76 wr w2.heap.size rv ps) ∧ Hid (ps.map (·.1) = (out.1.take j).map (came (k : Int))) ∧ Hid (ps.length = j) ∧ Hid (∀ p ∈ ps, InPers (fun i => i < w2.heap.size ∨ rv.ownBlock = some i) wr p) ∧ Hid (Below w2.heap.size w2 wr)) (fun _ iv _ => n - (intOf iv).toNat)
  case atStart => exact ⟨0, [], rfl, Nat.zero_le _, Lib.hid (World.ownsRow_nil _ _ _ _), Lib.hid (by simp), Lib.hid rfl, Lib.hid (fun p hp => by simp at hp), Lib.hid (Below.refl _ _)⟩
  case round =>
    obtain ⟨j, ps, rfl, hj, hrow, hps, hpl, hall, hbr⟩ := hrel
    have hrow1 := hrow.out
    unfold RowIn at hrow1
    rw [hpl.out] at hrow1
    obtain ⟨Ar, cr, rfl, _⟩ := own_form hrow1
    have HROW := Lib.hid hrow1
    clear hrow hrow1
    by_cases hlt : j < n
    · have hlt1 : j < out.1.length := by rw [← HN.out]; exact hlt
      obtain ⟨bi, oi, vs, rfl, hbl, ⟨Ab, cb, rfl, hbc, hbm, hbat⟩, hcells⟩ := HAT2.out j hlt1
      have hbsm := HSM.out _ (List.getElem_mem hlt1)
      have HTK := Lib.hid (List.take_succ_eq_append_getElem hlt1)
      generalize out.1[j] = it at *
      obtain ⟨nb, hnb⟩ : ∃ nb, nb = it.body.length := ⟨_, rfl⟩
      rw [← hnb] at hbc hbsm hcells
      obtain ⟨cs, hcs⟩ : ∃ cs, cs = itemCells it (.slice Ab nb cb) := ⟨_, rfl⟩
      rw [← hcs] at hcells
      have HR := Lib.hid (show wr.rangeAt bi (oi + j * 3) cs from fun r u hu => by
        obtain ⟨h', rfl⟩ := List.getElem?_eq_some_iff.1 hu
        exact (hbr.out.cell (p := ⟨bi, _, none⟩) hbl).trans (hcells r h'))
      have HL := Lib.hid (show cs.length = 3 by rw [hcs]; rfl)
      have HONE := Lib.hid (show ∀ u ∈ cs, u.oneCell' = true by rw [hcs]; exact itemCells_one _ _ _ _)
      obtain ⟨wx, hwx⟩ : ∃ wx, wx = wr.alloc (.cells cs.toArray 90) := ⟨_, rfl⟩
      obtain ⟨X, hX⟩ : ∃ X, X = wr.heap.size := ⟨_, rfl⟩
      have hbx : Below wr.heap.size wr wx := by rw [hwx]; exact Joins.below_alloc1 _ _
      have HBX := Lib.hid hbx
      have HKX := Lib.hid (show Bk wx X 90 (itemCells it (.slice Ab nb cb)).toArray by rw [hwx, hcs, hX]; exact Bk.new _ _ _)
      have HB2X := Lib.hid (hbr.out.trans (hbx.mono hbr.out.size))
      have HC := Lib.hid (came_any (k : Int) it Ab nb cb w2.heap.size wx hnb.symm (At.below hbat HB2X.out) HB2X.out.size hbc hbm (by omega))
      obtain ⟨cmd, hcmd⟩ : ∃ cmd : ByteArray, cmd = ⟨it.cmd.toArray⟩ := ⟨_, rfl⟩
      obtain ⟨er, her⟩ : ∃ er, er = it.err := ⟨_, rfl⟩
      have i4 : (0 : Int) ≤ (j : Int) := by omega
      have i5 : (j : Int) < (n : Int) := by omega
      have hz3 := hbr.out.size
      have HXZ := Lib.hid (show wr.heap.size < wx.heap.size by rw [hwx]; simp)
      unfold itemCells at HC HKX
      rw [← hcmd, ← her] at HC HKX
      have k0 : wx.cell? ⟨X, 0, none⟩ = some (.string cmd) := (HKX.out.cell 0).trans rfl
      have k1 : wx.cell? ⟨X, 1, none⟩ = some (.slice Ab nb cb) := (HKX.out.cell 1).trans rfl
      have k2 : wx.cell? ⟨X, 2, none⟩ = some (.int .i64 er) := (HKX.out.cell 2).trans rfl
      obtain ⟨ez, hz0, hz1, hz2'⟩ : ∃ zs : Array Value, (Tryd.prog.info? 90).map (·.zero) = some (some (.agg zs)) ∧ zs.size = 3 ∧ True := ⟨#[.string ⟨#[]⟩, .slice none 0 0, .int .i64 0], by kernel_rfl, rfl, trivial⟩
      have HZI := Lib.hid hz0
      have HZIL := Lib.hid hz1
      clear hcells hbat hcs hnb hbx hcmd her hz0 hz1 hz2' HKX
      go_upto_region 7 with (refine wpList_elem rfl rfl rfl 90 (.tmp 31) (.tmp 9) (.tmp 32) rfl rfl rfl bi (oi + j * 3) (by rfl) cs _ HR.out Tryd.underlying90 rfl (by rw [HL.out]; kernel_rfl) ez HZI.out (by rw [HZIL.out, HL.out]) HONE.out (by rfl) (by rfl) ?_)
      rw [← hwx, ← hX]
      clear hwx hX
      go_wp2_with fail
      refine HC.out.mono ?_
      rintro e w5 ⟨A', c', A1', c1', A2', c2', rfl, hnew, hb5⟩
      obtain ⟨x, hx⟩ : ∃ x, x = came (k : Int) it := ⟨_, rfl⟩
      rw [← hx] at hnew ⊢
      obtain ⟨p, hp⟩ : ∃ p : IP, p = (x, .slice A' x.msg.ids.length c', .slice A1' x.msg.tx.ins.length c1', .slice A2' x.msg.tx.outs.length c2') := ⟨_, rfl⟩
      obtain ⟨cx, hcx⟩ : ∃ cx, cx = inCells x (.slice A' x.msg.ids.length c') (.slice A1' x.msg.tx.ins.length c1') (.slice A2' x.msg.tx.outs.length c2') := ⟨_, rfl⟩
      rw [← hcx]
      have HCP := Lib.hid (show cx.toList = ipCells p by rw [hcx, hp]; rfl)
      have HCS := Lib.hid (show cx.size = 8 by rw [hcx]; rfl)
      have HCO := Lib.hid (show ∀ u ∈ cx.toList, u.oneCell' = true by
        rw [hcx]
        intro u hu
        simp only [inCells, List.mem_cons, List.not_mem_nil, or_false] at hu
        rcases hu with rfl | rfl | rfl | rfl | rfl | rfl | rfl | rfl <;> rfl)
      have HB5 := Lib.hid (HBX.out.trans (hb5.mono HBX.out.size))
      have hz5 := hb5.size
      have HNEW := Lib.hid (show InPers (fun i => i < wx.heap.size) w5 p from ⟨A', c', A1', c1', A2', c2', by rw [hp], by rw [hp], by rw [hp], fun W hW => by rw [hp]; exact hnew W hW⟩)
      have HP1 := Lib.hid (show p.1 = came (k : Int) it by rw [hp, hx])
      have hxz := HXZ.out
      have HOWN := Lib.hid (show w5.ownsRow w2.heap.size 76 8 (.slice Ar j cr) j (ps.flatMap ipCells) from own_below HROW.out HB5.out)
      clear hnew hb5 hp hcx hx k0 k1 k2 HC HXZ
      go_wp2_with (first
        | (refine wpList_buildOne rfl 30 76 (.tmp 36) rfl cx (by rfl) Tryd.underlying30 (by rw [HCS.out]; exact size_in) #[.int .i64 0, .int .u64 0, .int .u32 0, .slice none 0 0, .int .u32 0, .slice none 0 0, .slice none 0 0, .int .i64 0] HZ8.out (by rw [HCS.out]; omega) (by rw [HCS.out]; omega) ?_)
        | (at_builtin; go_must (refine wpList_app _ rfl (.tmp 33) (.tmp 37) _ rfl w2.heap.size 76 ie _ 8 112 Tryd.underlying30 Ii.out Iz.out Iz1.out Iz2.out rfl (by decide) (.slice Ar j cr) j (ps.flatMap ipCells) (by rfl) (own_below HOWN.out (Joins.below_alloc1 _ _)) (some ⟨w5.heap.size, 0, none⟩) 1 1 cx.toList (by rfl) (by rw [Array.length_toList, HCS.out]) (by simpa using Src.new w5 cx.toList 76) HCO.out (by unfold maxLen; omega) (by omega) (by simp; omega) ?_); intro v6 w6 hrow6 hg6 hat6))
      have hkg : Kp (fun i => (Value.slice Ar j cr).ownBlock = some i) w5 w6 := ((Kp.refl _ _).alloc _).trans ((Kp.refl _ _).grown hg6 (fun i h _ => h))
      have hlow := own_lt HROW.out
      have hrow6' := hrow6
      obtain ⟨A6, c6, rfl, _⟩ := own_form hrow6'
      have HR6 := Lib.hid hrow6
      have HLT6 := Lib.hid (show ∀ i, (Value.slice A6 (j + 1) c6).ownBlock = some i → (Value.slice Ar j cr).ownBlock = some i ∨ w5.heap.size ≤ i from fun i hi => by
        rcases hat6 with h | h
        · exact .inl (h ▸ hi)
        · rw [h] at hi; injection hi with hi; simp at hi; exact .inr (by omega))
      have HKG := Lib.hid hkg
      have HLOW := Lib.hid hlow
      clear hrow6 hrow6' hg6 hat6 hkg hlow
      go_roundw
      case rel =>
        refine ⟨j + 1, ps ++ [p], by go_num, by omega, Lib.hid ?_, Lib.hid ?_, Lib.hid (by rw [List.length_append, hpl.out]; rfl), Lib.hid (fun q hq => ?_), Lib.hid ?_⟩
        · show w6.ownsRow _ _ _ _ _ _
          rw [List.length_append, hpl.out, List.flatMap_append, List.flatMap_singleton, ← HCP.out]
          exact HR6.out
        · rw [List.map_append, hps.out, HTK.out, List.map_append, List.map_singleton, List.map_singleton, HP1.out]
        · rcases List.mem_append.1 hq with hq | hq
          · refine (((hall.out q hq).step (T' := fun i => i < w2.heap.size ∨ (Value.slice Ar j cr).ownBlock = some i) (S := fun _ => False) (Kp.of_below HB5.out) (fun _ _ h => h.elim) (fun _ _ h => h))).step HKG.out (fun i _ h => .inr h) (fun i hi h => ?_)
            rcases h with h | h
            · exact .inl h
            · rcases HLT6.out i h with h' | h'
              · exact .inr h'
              · omega
          · rw [List.mem_singleton.1 hq]
            refine HNEW.out.step HKG.out (fun i _ h => by have := (HLOW.out i h).2; omega) (fun i hi h => ?_)
            rcases h with h | h
            · omega
            · rcases HLT6.out i h with h' | h'
              · have := (HLOW.out i h').2; omega
              · omega
        · exact Kp.from_elder (hbr.out.trans (HB5.out.mono hbr.out.size)) HKG.out (fun i hi h => by have := (HLOW.out i h).1; omega)
      case measure => simp [intOf]; omega
    · obtain rfl : j = n := by omega
      have ht : out.1.take j = out.1 := List.take_of_length_le (by rw [← HN.out]; exact Nat.le_refl _)
      rw [ht] at hps
      clear ht
      go_wp2_with fail
      go_ret
      refine ⟨_, v, ps, rfl, HFS.out.kp (Kp.of_below (S := fun _ => False) hbr.out) (fun h => h) (fun _ _ h => h), HOW.out, ?_, hps.out, fun q hq => ?_, fun i hi e => ?_, HKP.out.trans_of (Kp.of_below (S := fun _ => False) hbr.out) (fun _ _ h => h.elim)⟩
      · have := HROW.out
        show wr.ownsRow _ _ _ _ _ _
        rw [hpl.out]
        exact own_mono this hz2
      · refine (hall.out q hq).step (S := fun _ => False) (Kp.refl _ _) (fun _ _ h => h.elim) (fun i hi h => ?_)
        rcases h with h | h | h
        · exact .inl (by omega)
        · exact .inl ((HVL.out i h).2)
        · exact .inr h
      · have h1 := (own_lt HROW.out i hi).1
        have h2 := (HVL.out i e).2
        omega
end Go.Proofs.YtpacgblddeoheaaDoor.P22
