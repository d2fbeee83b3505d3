/- What may be spends nothing twice: each way through the law. -/
import Derived.Test.YtmekgidfdlckoaaTxMay
namespace Go.Proofs.Ytmekgidfdlckoaa
open Go.RowKit Go.Deep T7
set_option linter.unusedVariables false
set_option linter.unusedSimpArgs false
set_option maxRecDepth 100000
attribute [local go_sem ↓] Go.wp_at_zero Go.wp_at_succ

set_option maxHeartbeats 2000000 in
theorem txMay_no (w : World) (t : Txs.Tx) (A : Option Addr) (c : Nat) (A' : Option Addr) (c' : Nat) (h : TxAt w w.heap.size t A c A' c') (z : Int) (hno : greatB t = true ∨ greatB t = false ∧ Txs.check t ≠ 0) :
    Calls Try.prog 7 #[txV t A c A' c', .int .u8 z] w fun e w' => e = .returned (.bool true) ∧ Below w.heap.size w w' := by
  have HT := Lib.hid h
  have HG := fun W h1 h2 => great_any t A A' c c' w.heap.size W h1 h2
  have HC := fun W h1 h2 => check7_any t A A' c c' w.heap.size W h1 h2
  unfold txV at HG HC ⊢
  have HNO := Lib.hid hno
  obtain ⟨q, hq⟩ : ∃ q, q = Txs.check t := ⟨_, rfl⟩
  obtain ⟨gr, hgr⟩ : ∃ gr, gr = greatB t := ⟨_, rfl⟩
  rw [← hq] at HNO HC
  rw [← hgr] at HNO HG
  generalize t.ins.length = n at *
  generalize t.outs.length = m at *
  generalize t.version = ver at *
  have HG := Lib.hid HG
  have HC := Lib.hid HC
  clear h hno hq hgr
  obtain ⟨w1, hw1⟩ : ∃ w1, w1 = w.alloc (.cells #[.int .u32 (ver : Int), .slice A n c, .slice A' m c'] 28) := ⟨_, rfl⟩
  have HK1 := Lib.hid (show Bk w1 w.heap.size 28 #[.int .u32 (ver : Int), .slice A n c, .slice A' m c'] by rw [hw1]; exact Bk.new _ _ _)
  have HB1 := Lib.hid (show Below w.heap.size w w1 by rw [hw1]; exact Joins.below_alloc1 _ _)
  go_enter Try.func7, Try.ntmps7
  go_wp2_with fail
  rw [← hw1]
  clear hw1
  refine (tx_alive w1).mono ?_
  rintro e w2 ⟨rfl, hb2⟩
  have HB2 := Lib.hid (HB1.out.trans (hb2.mono HB1.out.size))
  have HK2 := Lib.hid (HK1.out.below hb2 HK1.out.lt)
  have k0 : w2.cell? ⟨w.heap.size, 0, none⟩ = some (.int .u32 (ver : Int)) := (HK2.out.cell 0).trans rfl
  have k1 : w2.cell? ⟨w.heap.size, 1, none⟩ = some (.slice A n c) := (HK2.out.cell 1).trans rfl
  have k2 : w2.cell? ⟨w.heap.size, 2, none⟩ = some (.slice A' m c') := (HK2.out.cell 2).trans rfl
  clear hb2
  go_wp2_with fail
  refine (HG.out w2 (HT.out.below HB2.out) HB2.out.size).mono ?_
  rintro e w3 ⟨rfl, hb3⟩
  have HB3 := Lib.hid (HB2.out.trans (hb3.mono HB2.out.size))
  have HK3 := Lib.hid (HK2.out.below hb3 HK2.out.lt)
  clear hb3 HG k0 k1 k2
  rcases HNO.out with h | ⟨h, h0⟩
  · subst h
    clear HNO
    go_wp2_with fail
    go_ret
    exact ⟨rfl, HB3.out⟩
  · subst h
    have hq : (q != 0) = true := by rw [bne_iff_ne]; exact h0
    have k0 : w3.cell? ⟨w.heap.size, 0, none⟩ = some (.int .u32 (ver : Int)) := (HK3.out.cell 0).trans rfl
    have k1 : w3.cell? ⟨w.heap.size, 1, none⟩ = some (.slice A n c) := (HK3.out.cell 1).trans rfl
    have k2 : w3.cell? ⟨w.heap.size, 2, none⟩ = some (.slice A' m c') := (HK3.out.cell 2).trans rfl
    clear HNO h0
    go_wp2_with fail
    refine (HC.out w3 (HT.out.below HB3.out) HB3.out.size).mono ?_
    rintro e w4 ⟨rfl, hb4⟩
    have HB4 := Lib.hid (HB3.out.trans (hb4.mono HB3.out.size))
    clear hb4 HC
    go_wp2_with fail
    go_ret
    exact ⟨rfl, HB4.out⟩
theorem txMay_walk (w : World) (t : Txs.Tx) (A : Option Addr) (c : Nat) (A' : Option Addr) (c' : Nat) (h : TxAt w w.heap.size t A c A' c') (z : Int) (hz : (Lit.int .u8 z).wf = true) :
    Calls Try.prog 7 #[txV t A c A' c', .int .u8 z] w fun e w' => e = .returned (.bool true) ∧ Below w.heap.size w w' := by
  cases hg : greatB t with
  | true => exact txMay_no w t A c A' c' h z (.inl hg)
  | false =>
    by_cases hc : Txs.check t = 0
    · exact txMay_ok w t A c A' c' h z hz hg hc
    · exact txMay_no w t A c A' c' h z (.inr ⟨hg, hc⟩)
end Go.Proofs.Ytmekgidfdlckoaa
