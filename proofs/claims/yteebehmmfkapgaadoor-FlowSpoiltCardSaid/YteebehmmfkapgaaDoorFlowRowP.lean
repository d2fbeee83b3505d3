/- Messages that come in: their frames, one behind the other, in plain Lean and in memory. -/
import Derived.Test.YteebehmmfkapgaaDoorFlowJoin
import Derived.Lib.SmallJoins
namespace Go.Proofs.YteebehmmfkapgaaDoor
open Go.RowKit Go.Deep Go.ChangeShapes Go.WideShapes Go.ChangeAt
set_option linter.unusedVariables false
set_option linter.unusedSimpArgs false
set_option maxRecDepth 100000

structure Flo.Msg where
  cmd : List UInt8
  body : List UInt8
def Flo.ok (m : Flo.Msg) : Bool := Frm.named m.cmd && decide (m.body.length ≤ 2048)
def Flo.put (m : Flo.Msg) : List UInt8 := Frm.put m.cmd m.body
def Flo.said (m : Flo.Msg) : Flo.Item := ⟨m.cmd, m.body, 0⟩
def Flo.good (l : List Flo.Msg) : List Flo.Msg := l.filter Flo.ok
def Flo.bytes (l : List Flo.Msg) : List UInt8 := (Flo.good l).flatMap Flo.put
def Flo.want (l : List Flo.Msg) : List Flo.Item := (Flo.good l).map Flo.said
theorem Flo.run_put' {m : Flo.Msg} (h : Flo.ok m = true) (y : List UInt8) : Flo.run (Flo.put m ++ y) = (Flo.said m :: (Flo.run y).1, (Flo.run y).2) := by
  simp only [Flo.ok, Bool.and_eq_true, decide_eq_true_eq] at h
  exact Flo.run_put h.1 h.2 y
theorem Flo.run_row (l : List Flo.Msg) (y : List UInt8) : Flo.run (Flo.bytes l ++ y) = (Flo.want l ++ (Flo.run y).1, (Flo.run y).2) := by
  unfold Flo.bytes Flo.want
  have h : ∀ m ∈ Flo.good l, Flo.ok m = true := fun m hm => (List.mem_filter.1 hm).2
  revert h
  generalize Flo.good l = g
  intro h
  induction g with
  | nil => simp
  | cons m g ih =>
    rw [List.flatMap_cons, List.append_assoc, Flo.run_put' (h m (by simp)), ih (fun x hx => h x (by simp [hx]))]
    simp
theorem Flo.run_nil : Flo.run [] = ([], [], false) := Flo.run_short (by decide)
theorem Flo.run_rows (l : List Flo.Msg) : Flo.run (Flo.bytes l) = (Flo.want l, [], false) := by
  have := Flo.run_row l []
  rw [List.append_nil, Flo.run_nil, List.append_nil] at this
  exact this
theorem Flo.good_take {l : List Flo.Msg} {k : Nat} (hk : k < l.length) : Flo.good (l.take (k + 1)) = Flo.good (l.take k) ++ if Flo.ok l[k] then [l[k]] else [] := by
  unfold Flo.good
  rw [List.take_succ_eq_append_getElem hk, List.filter_append]
  by_cases h : Flo.ok l[k] <;> simp [h]
theorem Flo.take_yes {l : List Flo.Msg} {k : Nat} (hk : k < l.length) (h : Flo.ok l[k] = true) : Flo.bytes (l.take (k + 1)) = Flo.bytes (l.take k) ++ Flo.put l[k] ∧ Flo.want (l.take (k + 1)) = Flo.want (l.take k) ++ [Flo.said l[k]] := by
  unfold Flo.bytes Flo.want
  rw [Flo.good_take hk, if_pos h]
  simp
theorem Flo.take_no {l : List Flo.Msg} {k : Nat} (hk : k < l.length) (h : Flo.ok l[k] = false) : Flo.bytes (l.take (k + 1)) = Flo.bytes (l.take k) ∧ Flo.want (l.take (k + 1)) = Flo.want (l.take k) := by
  unfold Flo.bytes Flo.want
  rw [Flo.good_take hk, if_neg (by simp [h])]
  simp
theorem Flo.put_len {m : Flo.Msg} (h : Flo.ok m = true) : (Flo.put m).length = 24 + m.body.length ∧ m.body.length ≤ 2048 := by
  simp only [Flo.ok, Bool.and_eq_true, decide_eq_true_eq] at h
  exact ⟨Frm.put_len h.1 _, h.2⟩
theorem Flo.bytes_len (l : List Flo.Msg) : (Flo.bytes l).length ≤ 2072 * l.length ∧ (Flo.want l).length ≤ l.length := by
  unfold Flo.bytes Flo.want
  have h : ∀ m ∈ Flo.good l, Flo.ok m = true := fun m hm => (List.mem_filter.1 hm).2
  have h2 : (Flo.good l).length ≤ l.length := List.length_filter_le _ _
  revert h h2
  generalize Flo.good l = g
  intro h h2
  have h3 : (g.flatMap Flo.put).length ≤ 2072 * g.length := by
    clear h2
    induction g with
    | nil => simp
    | cons m g ih =>
      have := Flo.put_len (h m (by simp))
      have := ih (fun x hx => h x (by simp [hx]))
      rw [List.flatMap_cons, List.length_append, List.length_cons]
      omega
  rw [List.length_map]
  omega
/-! ### in memory -/
def msgCells (m : Flo.Msg) (u : Value) : List Value := [.string ⟨m.cmd.toArray⟩, u]
def IsMsg (w : World) (B : Nat) (vs : List Value) (m : Flo.Msg) : Prop := m.cmd.length ≤ maxLen ∧ ∃ A cap, vs = msgCells m (.slice A m.body.length cap) ∧ m.body.length ≤ cap ∧ cap ≤ maxLen ∧ BytesAt w B A m.body
abbrev MsgsAt (w : World) (B : Nat) (A : Option Addr) (l : List Flo.Msg) : Prop := At 2 (IsMsg w B) w B A l
theorem MsgsAt.below {w w' : World} {B : Nat} {A : Option Addr} {l : List Flo.Msg} (h : MsgsAt w B A l) (hb : Below B w w') : MsgsAt w' B A l := by
  intro i hi
  obtain ⟨b, off, vs, hA, hlt, ⟨h0, A', cap, rfl, h1, h2, h3⟩, hc⟩ := h i hi
  exact ⟨b, off, _, hA, hlt, ⟨h0, A', cap, rfl, h1, h2, At.below h3 hb⟩, fun j hj => (hb.cell (p := ⟨b, _, none⟩) hlt).trans (hc j hj)⟩
theorem MsgsAt.cells {w : World} {B i : Nat} {A : Option Addr} {l : List Flo.Msg} (h : MsgsAt w B A l) (hi : i < l.length) : ∃ b off A1 c1, A = some ⟨b, off, none⟩ ∧ b < B ∧ (l[i]).cmd.length ≤ maxLen ∧ (l[i]).body.length ≤ c1 ∧ c1 ≤ maxLen ∧ BytesAt w B A1 (l[i]).body ∧
    w.cell? ⟨b, off + i * 2, none⟩ = some (.string ⟨(l[i]).cmd.toArray⟩) ∧ w.cell? ⟨b, off + i * 2 + 1, none⟩ = some (.slice A1 (l[i]).body.length c1) := by
  obtain ⟨b, off, vs, hA, hlt, ⟨h0, A1, c1, rfl, h1, h2, h3⟩, hc⟩ := h i hi
  exact ⟨b, off, A1, c1, hA, hlt, h0, h1, h2, h3, hc 0 (by simp [msgCells]), hc 1 (by simp [msgCells])⟩
section
variable {H : Type} {enc : TypeId × Value → H} {W : World}
theorem isMsg_open (n : Nat) (cs : List Value) (x : DataW H × List MemPlace) (hl : cs.length = 2)
    (h : DataW.trod enc Tryd.prog W 0 (fun _ => true) true n 43 cs = some x) : ∃ y : Flo.Msg, IsMsg W W.heap.size cs y := by
  obtain ⟨y0, y1, m, _, _, h0, h1⟩ := trod_struct2 Tryd.underlying43 h
  have c1 : Tryd.prog.cellsOf 9 = 1 := by kernel_rfl
  have c2 : Tryd.prog.cellsOf 28 = 1 := by kernel_rfl
  simp only [c1, c2, List.drop_zero] at h0 h1
  match cs, hl with
  | [u, v], _ =>
    simp only [List.take_succ_cons, List.take_zero, List.drop_succ_cons, List.drop_zero] at h0 h1
    obtain ⟨s, hs, _, hsz⟩ := DataW.trod_string Tryd.underlying9 h0
    obtain ⟨A, len, cap, l, rfl, hl, hc, hm, hat⟩ := open_at_of IsByte 1 (by omega) Tryd.underlying28 (by kernel_rfl) h1 isByte_open
    subst hl
    obtain rfl : u = .string s := by simpa using hs
    exact ⟨⟨s.data.toList, l⟩, by show s.data.toList.length ≤ _; rw [str_len]; exact hsz, A, cap, by unfold msgCells; rw [str_back], hc, hm, hat⟩
theorem msg_open {v : Value} {d : DataW H} {p : List MemPlace} (hv : Value.okWide Tryd.prog W .any 0 43 v) (h : DataW.Trod enc Tryd.prog W 0 (fun _ => true) true 43 v d p) :
    ∃ (x : Flo.Msg) (A : Option Addr) (c : Nat), v = .agg #[.string ⟨x.cmd.toArray⟩, .slice A x.body.length c] ∧ x.cmd.length ≤ maxLen ∧ x.body.length ≤ c ∧ c ≤ maxLen ∧ BytesAt W W.heap.size A x.body := by
  obtain ⟨v0, v1, y0, y1, m, rfl, _, _, h0, h1⟩ := Joins.open_agg2 Tryd.underlying43 (by kernel_rfl) (by kernel_rfl) hv h
  obtain ⟨s, hs, _, hsz⟩ := DataW.trod_string Tryd.underlying9 h0
  obtain rfl : v0 = .string s := by simpa using hs
  obtain ⟨A, len, cap, l, rfl, hl, hc, hm, hat⟩ := open_at_of IsByte 1 (by omega) Tryd.underlying28 (by kernel_rfl) h1 isByte_open
  subst hl
  exact ⟨⟨s.data.toList, l⟩, A, cap, by rw [str_back], by show s.data.toList.length ≤ _; rw [str_len]; exact hsz, hc, hm, hat⟩
end
/-! ### a row of items whose bodies lie in old memory -/
def ItemU (w : World) (B : Nat) (u : Value) (p : List UInt8) : Prop := ∃ A cap, u = .slice A p.length cap ∧ p.length ≤ cap ∧ cap ≤ maxLen ∧ BytesAt w B A p
def RowW (B base : Nat) (w : World) (v : Value) (l : List Flo.Item) : Prop :=
  ∃ us : List Value, us.length = l.length ∧ w.ownsRow base 52 3 v l.length ((l.zip us).flatMap itemPair) ∧ ∀ i (h : i < l.length), ∃ u, us[i]? = some u ∧ ItemU w B u l[i].body
theorem ItemU.kp {S : Nat → Prop} {w w' : World} {B : Nat} {u : Value} {p : List UInt8} (h : ItemU w B u p) (hk : Kp S w w') (hB : B ≤ w.heap.size) (hS : ∀ i, i < B → ¬ S i) : ItemU w' B u p := by
  obtain ⟨A, cap, hu, h1, h2, h3⟩ := h
  exact ⟨A, cap, hu, h1, h2, At.kp h3 hk hB hS⟩
theorem ItemU.mono {w : World} {B B' : Nat} {u : Value} {p : List UInt8} (h : ItemU w B u p) (hB : B ≤ B') : ItemU w B' u p := by
  obtain ⟨A, cap, hu, h1, h2, h3⟩ := h
  exact ⟨A, cap, hu, h1, h2, At.mono h3 hB⟩
theorem RowW.nil (B base : Nat) (w : World) : RowW B base w (.slice none 0 0) [] := ⟨[], rfl, World.ownsRow_nil _ _ _ _, fun i h => by simp at h⟩
theorem RowW.lt {B base : Nat} {w : World} {v : Value} {l : List Flo.Item} (h : RowW B base w v l) : ∀ i, v.ownBlock = some i → base ≤ i ∧ i < w.heap.size := by
  obtain ⟨us, _, h2, _⟩ := h
  exact own_lt h2
theorem RowW.kp {B base : Nat} {S : Nat → Prop} {w w' : World} {v : Value} {l : List Flo.Item} (h : RowW B base w v l) (hk : Kp S w w') (h1 : ∀ i, v.ownBlock = some i → ¬ S i) (hB : B ≤ w.heap.size) (hS : ∀ i, i < B → ¬ S i) : RowW B base w' v l := by
  obtain ⟨us, e1, e2, e3⟩ := h
  exact ⟨us, e1, own_kp2 e2 hk h1, fun i hi => by obtain ⟨u, hu, hp⟩ := e3 i hi; exact ⟨u, hu, hp.kp hk hB hS⟩⟩
theorem RowW.one {B base : Nat} {w : World} {v : Value} {l : List Flo.Item} {us : List Value} (h1 : us.length = l.length) (h3 : ∀ i (h : i < l.length), ∃ u, us[i]? = some u ∧ ItemU w B u l[i].body) : ∀ u ∈ (l.zip us).flatMap itemPair, u.oneCell' = true := by
  intro u hu
  rw [List.mem_flatMap] at hu
  obtain ⟨⟨x, y⟩, hp, hu⟩ := hu
  obtain ⟨i, hi, hz⟩ := List.getElem_of_mem hp
  rw [List.getElem_zip] at hz
  have hl : i < l.length := by rw [List.length_zip] at hi; omega
  obtain ⟨z, hz2, A, cap, hz3, _⟩ := h3 i hl
  have hy : y = z := by
    rw [List.getElem?_eq_getElem (by omega)] at hz2
    have h2 := (Prod.mk.inj hz).2
    rw [← h2]; exact Option.some.inj hz2
  have : u ∈ itemCells x (.slice A (l[i]).body.length cap) := by
    rw [← hz3, ← hy]; exact hu
  exact itemCells_one x _ _ _ u this
/-- an item more -/
theorem RowW.push {B base : Nat} {w w' : World} {v v' u : Value} {us : List Value} {l : List Flo.Item} {x : Flo.Item} (h1 : us.length = l.length) (h3 : ∀ i (h : i < l.length), ∃ u, us[i]? = some u ∧ ItemU w B u l[i].body) (hu : ItemU w B u x.body)
    (hrow : w'.ownsRow base 52 3 v' (l.length + 1) ((l.zip us).flatMap itemPair ++ itemCells x u)) (hg : w.grownBy w' v.ownBlock) (hv : ∀ i, v.ownBlock = some i → B ≤ i) (hB : B ≤ w.heap.size) : RowW B base w' v' (l ++ [x]) := by
  have hk : Kp (fun i => v.ownBlock = some i) w w' := (Kp.refl _ w).grown hg (fun k hk _ => hk)
  have hS : ∀ i, i < B → ¬ v.ownBlock = some i := fun i hi e => by have := hv i e; omega
  refine ⟨us ++ [u], by simp [h1], ?_, fun i hi => ?_⟩
  · rw [List.zip_append h1.symm, List.flatMap_append, List.length_append]
    simpa [itemPair] using hrow
  · rcases Nat.lt_or_ge i l.length with h | h
    · obtain ⟨u, hu, hp⟩ := h3 i h
      rw [List.getElem_append_left h]
      exact ⟨u, by rw [List.getElem?_append_left (by omega)]; exact hu, hp.kp hk hB hS⟩
    · have hi2 : i = l.length := by rw [List.length_append] at hi; simp at hi; omega
      subst hi2
      refine ⟨u, by rw [List.getElem?_append_right (by omega), h1]; simp, ?_⟩
      have e : (l ++ [x])[l.length] = x := by simp
      rw [e]; exact hu.kp hk hB hS
theorem RowW.at_ {B base : Nat} {w : World} {v : Value} {l : List Flo.Item} (h : RowW B base w v l) (hB : B ≤ w.heap.size) : ∃ A cap, v = .slice A l.length cap ∧ l.length ≤ cap ∧ cap ≤ maxLen ∧ ItemsAt w w.heap.size A l := by
  obtain ⟨us, h1, h2, h3⟩ := h
  obtain ⟨A, cap, hv, hn, hm, hA, hc⟩ := own_form h2
  have hzl : (l.zip us).length = l.length := by rw [List.length_zip, h1, Nat.min_self]
  refine ⟨A, cap, hv, hn, hm, fun i hi => ?_⟩
  obtain ⟨u, hu, A', cap', rfl, k1, k2, k3⟩ := h3 i hi
  have hz : (l.zip us)[i]'(by omega) = (l[i], .slice A' l[i].body.length cap') := by
    rw [List.getElem_zip]
    rw [List.getElem?_eq_some_iff] at hu
    obtain ⟨_, hu⟩ := hu
    rw [hu]
  have hcell : ∀ j (hj : j < 3), ∃ b, A = some ⟨b, 0, none⟩ ∧ base ≤ b ∧ b < w.heap.size ∧ w.cell? ⟨b, i * 3 + j, none⟩ = some ((itemCells l[i] (.slice A' l[i].body.length cap'))[j]'(by simpa [itemCells] using hj)) := fun j hj =>
    hc (i * 3 + j) _ (by
      rw [flatMap_index (l.zip us) (fun p _ => itemPair_len p) i (by omega) j hj, hz]
      unfold itemPair
      rw [List.getElem?_eq_getElem])
  obtain ⟨b, hA, _, hlt, _⟩ := hcell 0 (by omega)
  refine ⟨b, 0, _, hA, hlt, ⟨A', cap', rfl, k1, k2, k3.mono hB⟩, fun j hj => ?_⟩
  obtain ⟨b', hA', _, _, hcj⟩ := hcell j hj
  rw [hA] at hA'
  injection hA' with hA'
  injection hA' with hA' _
  subst hA'
  rw [Nat.zero_add]
  exact hcj
end Go.Proofs.YteebehmmfkapgaaDoor
