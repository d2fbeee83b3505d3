/- A map of counts: an entry that goes up by one. -/
import Derived.Test.YtacbibflhdmcoaaDoorBase
import Derived.WideKeyEntry
import Derived.Maps.OwnSet
namespace Go.Proofs.YtacbibflhdmcoaaDoor
open Go.ChangeMaps Go.MapKept Go.WideMaps
open Go.WideElems (Fit rd rg pl rd_val elemAt)
set_option linter.unusedVariables false
set_option linter.unusedSimpArgs false

theorem setBlock_twice (w : World) (b : Nat) (x y : Obj) : setBlock (setBlock w b x) b y = setBlock w b y := by
  simp [setBlock]
theorem ok_inj {α : Type} {x y : α} {w w' : World} (h : (Result.ok x w : Result α) = .ok y w') : x = y ∧ w = w' := by
  injection h with h1 h2
  exact ⟨h1, h2⟩
theorem map_inc {H : Type} {P : Program} {w : World} {t k e : TypeId} {b n : Nat} {D : DataW H} (K : KeyLaw P k) (ht : P.underlying t = some (.map k e)) (he : P.underlying e = some (.int .i64)) (hz : ∀ u : World, (zeroValue e).run P u = .ok (.int .i64 0) u)
    (hown : w.ownsMap P k (plainElem P e) b n D) (hn : n < maxLen) {key : Value} {kl : Lit} (hkey : keyOf P k key = some kl) :
    ∃ (c : Int) (v0 : Value) (st : Nat) (w1 : World), (Lit.int .i64 c).wf = true ∧ (Instr.lookup t (.map (some b)) key false).run P w = .ok (.int .i64 c) w ∧
      (Instr.mapEntry t (.map (some b)) key).run P w = .ok (.tuple #[v0, goInt st]) w1 ∧ (Instr.lookup t (.map (some b)) key false).run P w1 = .ok (.int .i64 c) w1 ∧ w.grownBy w1 (some b) ∧
      ∀ u : Int, (Lit.int .i64 u).wf = true → ∃ w2, (Instr.entryStore t (.map (some b)) (goInt st) (.int .i64 u)).run P w1 = .ok () w2 ∧ w2.ownsMap P k (plainElem P e) b (n + 1) (D.put kl (.lit (.int .i64 u))) ∧ w.grownBy w2 (some b) := by
  have KK : Maps.Keyed P k := Maps.Keyed.of_law K
  obtain ⟨c, hl, hat, hc⟩ := hown.lookup_int KK ht he (hz w) hkey
  have hup := fun (u : Int) (hu : (Lit.int .i64 u).wf = true) => hown.update KK ht hn hkey (plainElem_int (H := H) he hu)
  have hown' := hown
  obtain ⟨es, clock, hb, F, hs, hD⟩ := hown'
  obtain ⟨v0, st, es1, clock1, hE, hv0, hS⟩ := WideElems.entry_then_store K ht hz hb F hkey
  have hblt : b < w.heap.size := hown.lt
  have hb1 : (setBlock w b (.map es1 clock1)).heap[b]? = some (.map es1 clock1) := heap_setBlock_same hb _
  have hg1 : ∀ o, w.grownBy (setBlock w b o) (some b) := fun o => ⟨rfl, rfl, rfl, by simp [setBlock], fun i _ hi => heap_setBlock_other hb _ (fun e => hi (by rw [e]))⟩
  have hl1 : (Instr.lookup t (.map (some b)) key false).run P (setBlock w b (.map es1 clock1)) = .ok (.int .i64 c) (setBlock w b (.map es1 clock1)) := by
    rcases K.find w hkey es.toList F.keys with ⟨h1, h2⟩ | ⟨j, e0, h1, h2, h3⟩
    · have hl0 : (Instr.lookup t (.map (some b)) key false).run P w = .ok (.int .i64 0) w := by
        simp [Instr.lookup, run_underlying ht, MapKept.run_getObj_map hb, K.check w _ hkey, h1, hz, Result.andThen]
      obtain ⟨hc0, _⟩ := ok_inj (hl.symm.trans hl0)
      have hc0 : c = 0 := by simpa using hc0
      subst hc0
      have hE' : (Instr.mapEntry t (.map (some b)) key).run P w = .ok (.tuple #[.int .i64 0, goInt clock]) (setBlock w b (.map (es.push ⟨key, .int .i64 0, clock⟩) (clock + 1))) := by
        simp [Instr.mapEntry, run_underlying ht, MapKept.run_getObj_map hb, K.check w false hkey, h1, hz, MapKept.run_setObj_map _ hb, Result.andThen, setBlock]
      obtain ⟨_, hw⟩ := ok_inj (hE.symm.trans hE')
      rw [hw]
      obtain ⟨w', hrun, hown2, _⟩ := hup 0 (by decide)
      have hU : (Instr.mapUpdate t (.map (some b)) key (.int .i64 0)).run P w = .ok () (setBlock w b (.map (es.push ⟨key, .int .i64 0, clock⟩) (clock + 1))) := by
        simp [Instr.mapUpdate, run_underlying ht, MapKept.run_getObj_map hb, K.check w false hkey, h1, MapKept.run_setObj_map _ hb, Result.andThen, setBlock]
      obtain ⟨_, hw'⟩ := ok_inj (hrun.symm.trans hU)
      rw [← hw']
      obtain ⟨c', hl', hat', _⟩ := hown2.lookup_int KK ht he (hz w') hkey
      rw [Maps.atKey_put_same hown.isMap (KK.key hkey)] at hat'
      have hat' : (0 : Int) = c' := by simpa using hat'
      rw [← hat'] at hl'
      exact hl'
    · have hj : es[j]? = some e0 := by simpa using h2
      have hsame : es.modify j (fun e => { e with key := key }) = es := by
        apply Array.ext'
        rw [Array.toList_modify, ChangeMaps.modify_eq_set _ _ _ _ h2]
        have : ({ e0 with key := key } : MapEntry) = e0 := by rw [← h3]
        rw [this]
        exact WideElems.set_self _ _ _ h2
      have hE' : (Instr.mapEntry t (.map (some b)) key).run P w = .ok (.tuple #[e0.val, goInt e0.born]) (setBlock w b (.map es clock)) := by
        simp [Instr.mapEntry, run_underlying ht, MapKept.run_getObj_map hb, K.check w false hkey, h1, hj, h3, K.stays w hkey, hsame, MapKept.run_setObj_map _ hb, Result.andThen, setBlock]
      obtain ⟨_, hw⟩ := ok_inj (hE.symm.trans hE')
      rw [hw]
      have hown2 : (setBlock w b (.map es clock)).ownsMap P k (plainElem P e) b n D := ⟨es, clock, heap_setBlock_same hb _, F, hs, hD⟩
      obtain ⟨c', hl', hat', _⟩ := hown2.lookup_int KK ht he (hz _) hkey
      rw [hat] at hat'
      have hat' : c = c' := by simpa using hat'
      rw [hat']
      exact hl'
  refine ⟨c, v0, st, _, hc, hl, hE, hl1, hg1 _, fun u hu => ?_⟩
  obtain ⟨es', clock', hrun, hmu⟩ := hS _ (.int .i64 u) hb1
  obtain ⟨w', hrun', hown', hg⟩ := hup u hu
  obtain ⟨_, hw'⟩ := ok_inj (hrun'.symm.trans hmu)
  rw [setBlock_twice] at hrun
  exact ⟨_, hrun, by rw [← hw']; exact hown', by rw [← hw']; exact hg⟩
end Go.Proofs.YtacbibflhdmcoaaDoor
