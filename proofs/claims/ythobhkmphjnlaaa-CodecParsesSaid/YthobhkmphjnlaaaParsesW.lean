/- CodecParses, walked. -/
import Derived.Test.YthobhkmphjnlaaaApartW
import Derived.Test.YthobhkmphjnlaaaRBatW
import Derived.Test.YthobhkmphjnlaaaBatW
import Derived.Test.YthobhkmphjnlaaaBehind
namespace Go.Proofs.Ythobhkmphjnlaaa
open Go.RowKit
set_option linter.unusedVariables false
set_option linter.unusedSimpArgs false
attribute [local go_sem ↓] Go.wp_at_zero Go.wp_at_succ

theorem batF_bad {l : List UInt8} (h : (batF l).2 ≠ 0) : batF l = ((⟨#[]⟩, ⟨#[]⟩, 0, []), 11) := by
  unfold batF at h ⊢
  split
  · rfl
  · rename_i hh; rw [if_neg hh] at h; exact absurd rfl h
theorem BatEnd.open {w : World} {l : List UInt8} {e : Ending} {w' : World} (h : BatEnd w l e w') :
    ∃ ev, e = .returned (.tuple #[.agg #[.string (batF l).1.1, .string (batF l).1.2.1, .int .i64 (batF l).1.2.2.1, ev], .int .i64 (((batF l).2 : Nat) : Int)]) ∧ RdS rE w' (fun k => w.heap.size ≤ k) ev (batF l).1.2.2.2 ∧ Ext w w' := by
  obtain ⟨h1, h2, h3⟩ := h
  by_cases hc : (batF l).2 = 0
  · obtain ⟨ev, e1, e2⟩ := h2 hc
    exact ⟨ev, by rw [hc]; exact e1, e2, h3⟩
  · refine ⟨.slice none 0 0, ?_, ?_, h3⟩
    · rw [h1 hc, batF_bad hc]; rfl
    · rw [batF_bad hc]; exact RdS.nil _ _ _
theorem RBatEnd.open {w : World} {l : List UInt8} {e : Ending} {w' : World} (h : RBatEnd w l e w') :
    ∃ ev, e = .returned (.tuple #[.agg #[.string (batF l).1.1, .string (batF l).1.2.1, .int .i64 (batF l).1.2.2.1, ev], .int .i64 (((batF l).2 : Nat) : Int)]) ∧ RdS rE w' (fun k => w.heap.size ≤ k) ev (batF l).1.2.2.2 ∧ Ext w w' := by
  unfold RBatEnd at h
  rw [refBat_eq] at h
  exact BatEnd.open h

set_option maxRecDepth 100000 in
set_option maxHeartbeats 400000 in
theorem codecParses_walk (w : World) (bv : Value) (b : List UInt8) (rb : RdB w bv b) (sz : b.length ≤ 140737488351232) :
    Calls Try.prog 9 #[bv] w fun e w' => e = .returned (.bool true) ∧ Below w.heap.size w w' := by
  have HB := hid rb
  obtain ⟨ba, bc, rfl, hbc1, hbc2, -⟩ := id rb
  have hbc3 : bc ≤ 9223372036854775807 := by unfold maxLen at hbc2; omega
  clear rb hbc2
  obtain ⟨PP, hPP⟩ : ∃ PP, batF b = PP := ⟨_, rfl⟩
  obtain ⟨⟨s, k, n, es⟩, E⟩ := PP
  have HP := hid hPP
  clear hPP
  go_enter Try.func9, Try.ntmps9
  go_wp2_with fail
  refine (awake_any _).mono ?_
  rintro e w' ⟨rfl, hb'⟩
  have HX := hid (Ext.of hb')
  clear hb'
  obtain ⟨w1, rfl⟩ : ∃ w1 : World, w1 = w' := ⟨_, rfl⟩
  go_wp2_with fail
  refine (lent_any w1 _ b (HB.out.ext HX.out) (by omega)).mono ?_
  rintro e w2 ⟨g2, cap2, rfl, hg2, ho2, hb2⟩
  have hx2 := Ext.of hb2
  have HL2 := hid (rdB_own ho2)
  have HR2 := hid (RdB.head [77, 77, 77] (rdB_own ho2) rfl)
  have HX2 := hid (HX.out.trans hx2)
  clear hb2 ho2 hx2
  go_wp2_with fail
  refine Calls.mono (Batch_any w2 _ b HR2.out (by omega)) ?_
  intro e w3 hend
  obtain ⟨v3, rfl, y3, hx3⟩ := hend.open
  rw [HP.out] at y3 ⊢
  dsimp only at y3 ⊢
  have Y3 := hid y3
  have HX3 := hid hx3
  obtain ⟨a3, c3, rfl, -⟩ := y3.slice
  clear hend y3 hx3
  go_wp2_with fail
  obtain ⟨wb, hwb⟩ : ∃ wb, wb = w3.alloc (.cells #[.string s, .string k, .int .i64 n, .slice a3 es.length c3] 31) := ⟨_, rfl⟩
  rw [← hwb]
  have hxb : Ext w3 wb := by rw [hwb]; exact (Ext.refl _).alloc _
  have hrb : wb.heap[w3.heap.size]? = some (.cells #[.string s, .string k, .int .i64 n, .slice a3 es.length c3] 31 (0, 0)) := by rw [hwb]; exact heap_alloc_new _ _
  have hsb : wb.heap.size = w3.heap.size + 1 := by rw [hwb]; simp
  clear hwb
  obtain ⟨gx, hgx⟩ : ∃ gx, gx = w3.heap.size := ⟨_, rfl⟩
  rw [← hgx] at hrb hsb ⊢
  have HRX := hid hrb
  have HXB := hid (HX3.out.trans hxb)
  have HXB1 := hid hxb
  clear hrb hxb hgx
  refine Calls.mono (RBatch_any wb _ b (HB.out.ext (HX2.out.trans HXB.out)) (by omega)) ?_
  intro e w4 hend
  obtain ⟨v4, rfl, y4, hx4⟩ := hend.open
  rw [HP.out] at y4 ⊢
  dsimp only at y4 ⊢
  have Y4 := hid y4
  have HX4 := hid hx4
  obtain ⟨a4, c4, rfl, -⟩ := y4.slice
  have hs4 := hx4.size
  have hrx := (Below.block hx4 gx (by omega)).trans HRX.out
  have x0 : w4.cell? ⟨gx, 0, none⟩ = some (.string s) := (cell_of_row _ _ _ _ _ _ hrx).trans rfl
  have x1 : w4.cell? ⟨gx, 1, none⟩ = some (.string k) := (cell_of_row _ _ _ _ _ _ hrx).trans rfl
  have x2 : w4.cell? ⟨gx, 2, none⟩ = some (.int .i64 n) := (cell_of_row _ _ _ _ _ _ hrx).trans rfl
  have x3 : w4.cell? ⟨gx, 3, none⟩ = some (.slice a3 es.length c3) := (cell_of_row _ _ _ _ _ _ hrx).trans rfl
  have hg4 : gx < w4.heap.size := by omega
  have hg5 : ¬ gx = w4.heap.size := by omega
  have hg6 : ¬ w4.heap.size = gx := by omega
  clear hend y4 hx4 hrx hsb hs4
  go_wp2_with fail
  refine Calls.mono (SameBatch_any _ _ _ s s k k n n _ _ es es (RdS.ext Y3.out (HXB1.out.trans (HX4.out.trans (by (· repeat (first | (with_reducible assumption) | exact Ext.refl _ | refine Ext.alloc ?_ _ | refine Ext.drew ?_ | refine Ext.drewN ?_ _ | (apply Ext.snart; (with_reducible assumption)))))))) (RdS.ext Y4.out (by (· repeat (first | (with_reducible assumption) | exact Ext.refl _ | refine Ext.alloc ?_ _ | refine Ext.drew ?_ | refine Ext.drewN ?_ _ | (apply Ext.snart; (with_reducible assumption))))))) ?_
  rw [decide_eq_true rfl]
  rintro e w7 ⟨rfl, hb7⟩
  have HX7 := hid (show Ext w4 w7 from (show Ext w4 (w4.alloc _) from by (· repeat (first | (with_reducible assumption) | exact Ext.refl _ | refine Ext.alloc ?_ _ | refine Ext.drew ?_ | refine Ext.drewN ?_ _ | (apply Ext.snart; (with_reducible assumption))))).trans (Ext.of hb7))
  clear hb7 x0 x1 x2 x3 hg4 hg5 hg6
  go_wp2_with fail
  refine (held_any w7 g2 cap2 b _ (HL2.out.ext (HXB.out.trans (HX4.out.trans HX7.out))) (HB.out.ext (HX2.out.trans (HXB.out.trans (HX4.out.trans HX7.out)))) (by omega)).mono ?_
  rintro e w8 ⟨rfl, rfl⟩
  go_wp2_with fail
  go_ret
  exact ⟨rfl, HX2.out.trans (HXB.out.trans (HX4.out.trans HX7.out))⟩
end Go.Proofs.Ythobhkmphjnlaaa
