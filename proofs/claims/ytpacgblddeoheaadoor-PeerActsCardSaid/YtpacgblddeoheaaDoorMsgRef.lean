/- The document's messages: sizes, ids. -/
import Derived.Test.YtpacgblddeoheaaDoorMsgRT
import Derived.BigRegion
namespace Go.Proofs.YtpacgblddeoheaaDoor.M8
open Go.RowKit Go.Deep T7
set_option linter.unusedVariables false
set_option linter.unusedSimpArgs false
set_option maxRecDepth 100000
attribute [local go_sem ↓] Go.wp_at_zero Go.wp_at_succ

/-- how many bytes a body has; -1: that isn't fixed -/
def fixedOf (s : Msgs.Shape) : Int := if s.count = true ∨ s.tx = true then -1 else (Msgs.sizeOf s : Int)
theorem fixed_yes (k : Int) (hk : Msgs.known k = true) (w : World) : Calls Tryd.prog 57 #[.int .i64 k] w fun e w' => e = .returned (.int .i64 (fixedOf (Msgs.shp k))) ∧ w = w' := by
  rcases Msgs.known_cases hk with rfl | rfl | rfl | rfl | rfl | rfl | rfl | rfl | rfl | rfl | rfl
  all_goals
    clear hk
    go_enter Tryd.func57, Tryd.ntmps57
    go_wp2_with fail
    go_ret
    exact ⟨rfl, rfl⟩
theorem own_far8 {S : Nat → Prop} {w w' : World} {base : Nat} {e : TypeId} {size : Nat} {v : Value} {n : Nat} {xs : List Value} (h : w.ownsRow base e size v n xs) (hk : Kp S w w') (hn : ∀ g, v.ownBlock = some g → ¬ S g) : w'.ownsRow base e size v n xs := by
  refine ⟨h.1, ?_⟩
  rcases h.2 with h2 | ⟨g, cap, cur, hv, hb, hg, r⟩
  · exact .inl h2
  · have hgl : g < w.heap.size := (Array.getElem?_eq_some_iff.1 hg).1
    exact .inr ⟨g, cap, cur, hv, hb, (hk.block g hgl (hn g (by rw [hv]; rfl))).trans hg, r⟩
/-- hashes put together -/
theorem hashes_snoc : ∀ (n : Nat) (b : List UInt8), Msgs.hashes b (n + 1) = Msgs.hashes b n ++ [(b.drop (32 * n)).take 32]
  | 0, b => by simp [Msgs.hashes]
  | n + 1, b => by
    rw [Msgs.hashes, hashes_snoc n (b.drop 32), Msgs.hashes, List.cons_append, List.drop_drop, show 32 + 32 * n = 32 * (n + 1) by omega]
set_option maxHeartbeats 4000000 in
theorem ids_any (A : Option Addr) (L c B n : Nat) (b : List UInt8) (w : World) (hl : b.length = L) (hc : L ≤ c) (hm : c ≤ maxLen) (hat : BytesAt w B A b) (hB : B ≤ w.heap.size) (hn : 32 * n = L) (h32 : n ≤ 32) :
    Calls Tryd.prog 59 #[.slice A L c] w fun e w' => ∃ A' c', e = .returned (.slice A' n c') ∧ n ≤ c' ∧ c' ≤ maxLen ∧ HashesAt w' w'.heap.size A' (Msgs.hashes b n) ∧ (∀ a, A' = some a → w.heap.size ≤ a.block) ∧ Below w.heap.size w w' := by
  obtain ⟨i1, hi1, hy0, hy1, hy2⟩ := info_parts hash_info8
  have Hi := Lib.hid hi1
  have Hz := Lib.hid hy0
  have Hz1 := Lib.hid hy1
  have Hz2 := Lib.hid hy2
  have HL := Lib.hid hl
  have HAT := Lib.hid hat
  have HNL := Lib.hid hn
  obtain ⟨zs, hzs⟩ : ∃ zs, zs = bytesArr (List.replicate 32 (0 : UInt8)) := ⟨_, rfl⟩
  have HZH := Lib.hid (show (Tryd.prog.info? 93).map (·.zero) = some (some (.agg zs)) by rw [hzs]; exact zero_hash)
  have HZS := Lib.hid hzs
  have hL1 : L ≤ 1024 := by omega
  unfold maxLen at hm
  clear hi1 hy0 hy1 hy2 hl hat hzs hn
  go_enter Tryd.func59, Tryd.ntmps59
  go_wp2_with fail
  go_loopw [3, 4] (fun u v wr => ∃ k p : Nat, k ≤ n ∧ Hid (p = 32 * k) ∧ v = .int .i64 (p : Int) ∧ Hid (wr.ownsRow w.heap.size 93 32 u k ((Msgs.hashes b k).flatMap fun x => x.map byteV)) ∧ Hid (Below w.heap.size w wr)) (fun _ v _ => L + 32 - (intOf v).toNat)
  case atStart => exact ⟨0, 0, Nat.zero_le _, Lib.hid rfl, rfl, Lib.hid (World.ownsRow_nil _ _ _ _), Lib.hid (Below.refl _ _)⟩
  case round =>
    obtain ⟨k, p, hk, HP, rfl, hrow, hb⟩ := hrel
    by_cases hlt : k < n
    · have hp := HP.out
      obtain ⟨s, hs⟩ : ∃ s, s = (b.drop p).take 32 := ⟨_, rfl⟩
      have hsl : s.length = 32 := by rw [hs, List.length_take, List.length_drop, HL.out]; have := HNL.out; omega
      obtain ⟨bb, off, hA, hbB, -⟩ := HAT.out.cell (i := p) (by rw [HL.out]; have := HNL.out; omega)
      subst hA
      have hsat : BytesAt w B (some ⟨bb, off + p, none⟩) s := by rw [hs]; exact BytesAt.take (BytesAt.drop HAT.out (p)) 32
      obtain ⟨gk, hgk⟩ : ∃ gk, gk = wr.heap.size := ⟨_, rfl⟩
      obtain ⟨w1, hw1⟩ : ∃ w1, w1 = wr.alloc (.cells zs 93) := ⟨_, rfl⟩
      have HK1 := Lib.hid (show Bk w1 gk 93 (bytesArr (List.replicate 32 0)) by rw [hw1, hgk, ← HZS.out]; exact Bk.new _ _ _)
      have HB1 := Lib.hid (show Below w.heap.size w w1 by rw [hw1]; exact hb.out.alloc hb.out.size _)
      have HW1 := Lib.hid (show Below wr.heap.size wr w1 by rw [hw1]; exact Joins.below_alloc1 _ _)
      have HO1 := Lib.hid (own_below hrow.out HW1.out)
      have hz1 : w1.heap.size = gk + 1 := by rw [hw1, hgk]; simp
      have HZ1 := Lib.hid hz1
      have HGK := Lib.hid hgk
      have hgw : w.heap.size ≤ gk := by rw [hgk]; exact hb.out.size
      obtain ⟨w2, hcp, kb2, kk2⟩ := copy_row_bytes 93 w1.drew gk 0 32 32 B 32 (some ⟨bb, off + p, none⟩) (List.replicate 32 0) s HK1.out.drew (show BytesAt w1.drew B _ s from At.below hsat (HB1.out.drew.mono hB)) hsl (by omega) (by simp)
      have e32 : (List.replicate 32 (0 : UInt8)).take 0 ++ s.take 32 ++ (List.replicate 32 (0 : UInt8)).drop (0 + 32) = s := by
        rw [List.take_zero, List.nil_append, List.take_of_length_le (by omega), List.drop_of_length_le (by simp), List.append_nil]
      rw [e32] at kb2
      have HKB := Lib.hid kb2
      have HKK := Lib.hid kk2
      have HSL := Lib.hid hsl
      have HSN := Lib.hid (show Msgs.hashes b (k + 1) = Msgs.hashes b k ++ [s] by rw [hashes_snoc, hs, ← hp])
      have kz := kk2.size
      have hz2 : gk + 1 ≤ w2.heap.size := by rw [← HZ1.out]; exact kz
      have i1' : (p : Int) < (L : Int) := by have := HNL.out; omega
      have i2' : (0 : Int) ≤ (p : Int) := by omega
      have i3' : (p : Int) + 32 ≤ (L : Int) := by have := HNL.out; omega
      have i4' : (p : Int) + 32 ≤ (c : Int) := by omega
      have HCP := Lib.hid hcp
      have HL32 := Lib.hid (show p + 32 ≤ L by have := HNL.out; omega)
      have i5' : ¬ (c : Int) = (p : Int) := by omega
      clear hp hs hsl hsat kb2 kk2 e32 hcp kz hz1
      go_upto_region 6 with (refine wpList_allocOf rfl 93 rfl zs HZH.out ?_)
      rw [← hw1, ← hgk]
      have hcp := HCP.out
      clear hw1 hgk
      have r1 : IntKind.i64.wrap ((p : Int) + 32) = (p : Int) + 32 := IntWalk.i64_in _ (by omega)
      have r2 : ((p : Int) + 32).toNat = p + 32 := by omega
      have r3 : (0 : Int) ≤ (p : Int) + 32 := by omega
      have r4 : p + 32 - p = 32 := by omega
      simp only [Act.put, List.setIfInBounds_toArray, List.set_cons_zero, List.set_cons_succ]
      go_region
      clear r1 r2 r3 r4
      obtain ⟨hs, hhs⟩ : ∃ hs, hs = s.map byteV := ⟨_, rfl⟩
      have HHS := Lib.hid hhs
      have HHL := Lib.hid (show hs.length = 32 by rw [hhs, List.length_map]; exact HSL.out)
      have HHO := Lib.hid (show ∀ u ∈ hs, u.oneCell' = true by rw [hhs]; exact oneCell_bytes _)
      have HK2 := Lib.hid (show Bk w2 gk 93 hs.toArray by rw [hhs]; exact HKB.out)
      have HB2 := Lib.hid (Kp.from_elder HB1.out.drew HKK.out (fun i hi e => by omega))
      have HO2 := Lib.hid (own_far8 (show w1.drew.ownsRow w.heap.size 93 32 u3 k ((Msgs.hashes b k).flatMap fun x => x.map byteV) from HO1.out) HKK.out (fun g hg e => by
        have h1 := (hrow.out.lt g hg).2
        have h2 := HGK.out
        omega))
      clear hhs hcp
      go_wp2_with (first
        | (refine wpList_load_row rfl 93 (.tmp 5) rfl gk (by rfl) 93 hs.toArray (0, 0) _ HK2.out Tryd.underlying93 rfl (by rw [List.size_toArray, HHL.out]; exact size_hash) ?_)
        | (refine wpList_buildOne rfl 45 93 (.tmp 20) rfl hs.toArray (by rfl) Tryd.underlying45 (by rw [List.size_toArray, HHL.out]; exact size_hash) zs HZH.out (by rw [List.size_toArray, HHL.out]; omega) (by rw [List.size_toArray, HHL.out]; omega) ?_)
        | (at_builtin; refine wpList_app _ rfl (.tmp 19) (.tmp 21) _ rfl w.heap.size 93 i1 _ 32 32 Tryd.underlying45 Hi.out Hz.out Hz1.out Hz2.out rfl (by decide) u3 k _ (by rfl) (own_below HO2.out (Joins.below_alloc1 _ _)) (some ⟨w2.heap.size, 0, none⟩) 1 1 hs (by rfl) (by rw [HHL.out]) (Src.new _ _ _) HHO.out (by unfold maxLen; omega) (by omega) (by simp; omega) ?_; intro v' w' hrow' hg' hat'; have HRW := Lib.hid hrow'; have HGR := Lib.hid hg'; clear hrow' hg' hat'))
      go_roundw
      case rel =>
        refine ⟨k + 1, p + 32, by omega, Lib.hid (by rw [HP.out]; omega), by go_num, Lib.hid ?_, Lib.hid ?_⟩
        · rw [HSN.out, List.flatMap_append, List.flatMap_singleton, ← HHS.out]
          exact HRW.out
        · have hlt8 := (own_below HO2.out (Joins.below_alloc1 w2 (.cells hs.toArray 93))).lt
          exact (HB2.out.alloc HB2.out.size _).trans ⟨HGR.out.os, HGR.out.tape, HGR.out.output, HGR.out.size, fun i hi => HGR.out.block i (by have := HB2.out.size; simp; omega) (fun e => by have := (hlt8 i e.symm).1; omega)⟩
      case measure =>
        have := HL32.out
        simp [intOf]
        omega
    · obtain rfl : n = k := by omega
      have i9 : ¬ (p : Int) < (L : Int) := by have := HP.out; have := HNL.out; omega
      obtain ⟨A9, c9, rfl, h1, h2, hA9, _⟩ := own_form hrow.out
      obtain ⟨A9', c9', hv9, -, -, -, hat9⟩ := At.of_own (k := 32) (w := wr) (base := w.heap.size) (e := 93) (n := n) (R := IsHash) (v := .slice A9 n c9) (l := Msgs.hashes b n) (fun x : List UInt8 => x.map byteV) (fun x hx => by
        have := Msgs.hashes_ok n b (by rw [HL.out, ← HNL.out]; exact Nat.le_refl _) x hx
        exact ⟨by rw [List.length_map]; exact this, this, rfl⟩) (by omega) hrow.out
      injection hv9 with hv9 hva hvb
      subst hv9
      clear hva hvb
      have HAT9 := Lib.hid hat9
      have HA9 := Lib.hid hA9
      clear hat9 hA9
      go_wp2_with fail
      go_ret
      exact ⟨A9, c9, rfl, h1, h2, HAT9.out, fun a ha => (HA9.out a ha).1, hb.out⟩
end Go.Proofs.YtpacgblddeoheaaDoor.M8
