/- CodecBatches, walked. -/
import Derived.Test.YthobhkmphjnlaaaApartW
import Derived.Test.YthobhkmphjnlaaaRPutB
import Derived.Test.YthobhkmphjnlaaaBatW
import Derived.Test.YthobhkmphjnlaaaBehind
namespace Go.Proofs.Ythobhkmphjnlaaa
open Go.RowKit
set_option linter.unusedVariables false
set_option linter.unusedSimpArgs false
attribute [local go_sem ↓] Go.wp_at_zero Go.wp_at_succ

theorem RPutBEnd.open {w : World} {x : Bat} {e : Ending} {w' : World} (h : RPutBEnd w x e w') :
    ∃ v', e = .returned (.tuple #[v', .int .i64 (((putB x).2 : Nat) : Int)]) ∧ ((putB x).2 = 0 → OwnB w' w.heap.size v' (putB x).1) ∧ ((putB x).2 ≠ 0 → v' = .slice none 0 0) ∧ Ext w w' := by
  obtain ⟨h1, h2, h3⟩ := h
  by_cases hc : (putB x).2 = 0
  · obtain ⟨v', e1, e2⟩ := h1 hc
    exact ⟨v', by rw [hc]; exact e1, fun _ => e2, fun e => absurd hc e, h3⟩
  · exact ⟨.slice none 0 0, h2 hc, fun e => absurd e hc, fun _ => rfl, h3⟩

set_option maxRecDepth 100000 in
set_option maxHeartbeats 400000 in
theorem codecBatches_walk (w : World) (bv : Value) (b : List UInt8) (rb : RdB w bv b) (sz : b.length ≤ 140737488351232) (v : Value) (x : Bat) (rd : ∃ ev, v = .agg #[.string x.1, .string x.2.1, .int .i64 x.2.2.1, ev] ∧ x.1.size ≤ 9223372036854775807 ∧ x.2.1.size ≤ 9223372036854775807 ∧ (-9223372036854775808 ≤ x.2.2.1 ∧ x.2.2.1 ≤ 9223372036854775807) ∧ RdS rE w (fun k => k < w.heap.size) ev x.2.2.2) :
    Calls Try.prog 8 #[bv, v] w fun e w' => e = .returned (.bool true) ∧ Below w.heap.size w w' := by
  obtain ⟨ev, rfl, h1, h2, h3, h4⟩ := rd
  have HBI := hid (batI_of h4)
  have HB := hid rb
  obtain ⟨ba, bc, rfl, hbc1, hbc2, -⟩ := id rb
  obtain ⟨s, k, n, es⟩ := x
  dsimp only at h1 h2 h3 h4 ⊢
  obtain ⟨ea, ec, rfl, -⟩ := h4.slice
  have H4 := hid h4
  have hbc3 : bc ≤ 9223372036854775807 := by unfold maxLen at hbc2; omega
  clear h4 rb hbc2
  go_enter Try.func8, Try.ntmps8
  go_wp2_with fail
  refine (awake_any _).mono ?_
  rintro e w' ⟨rfl, hb'⟩
  have hx' := Ext.of hb'
  clear hb'
  have B1 := hid (show Box4 w' w.heap.size s k n (.slice ea es.length ec) from Box4.ext ⟨by simp [go_sem], by simp [go_sem], by simp [go_sem], by simp [go_sem]⟩ hx')
  have HX := hid (show Ext w w' by (· repeat (first | (with_reducible assumption) | exact Ext.refl _ | refine Ext.alloc ?_ _ | refine Ext.drew ?_ | refine Ext.drewN ?_ _ | (apply Ext.snart; (with_reducible assumption)))))
  clear hx'
  obtain ⟨w1, rfl⟩ : ∃ w1 : World, w1 = w' := ⟨_, rfl⟩
  go_wp2_with fail
  refine (lent_any w1 _ b (HB.out.ext HX.out) (by omega)).mono ?_
  rintro e w2 ⟨g2, cap2, rfl, hg2, ho2, hb2⟩
  have hx2 := Ext.of hb2
  have HL2 := hid (rdB_own ho2)
  have HR2 := hid (RdB.head [77, 77, 77] (rdB_own ho2) rfl)
  clear hb2 ho2
  obtain ⟨c0, c1, c2, c3⟩ := B1.out.ext hx2
  go_wp2_with fail
  refine Calls.mono (PutBatch_any w2 _ _ b HR2.out sz s k n _ es h1 h2 h3 (H4.out.ext (HX.out.trans hx2))) ?_
  intro e w3 hend
  obtain ⟨v3, rfl, p1, p2, hx3⟩ := hend.open
  clear hend c0 c1 c2 c3
  have P1 := hid p1
  have P2 := hid p2
  clear p1 p2
  obtain ⟨c0, c1, c2, c3⟩ := B1.out.ext (hx2.trans hx3)
  go_wp2_with fail
  refine Calls.mono (RPutBatch_any w3 _ s k n _ es h1 h2 h3 (H4.out.ext (HX.out.trans (hx2.trans hx3)))) ?_
  intro e w4 hend
  obtain ⟨v4, rfl, q1, q2, hx4⟩ := hend.open
  clear hend c0 c1 c2 c3
  have Q1 := hid q1
  have Q2 := hid q2
  clear q1 q2
  go_wp2_with fail
  refine (held_any w4 g2 cap2 b _ (HL2.out.ext (hx3.trans hx4)) (HB.out.ext (HX.out.trans (hx2.trans (hx3.trans hx4)))) (by omega)).mono ?_
  rintro e w5 ⟨rfl, rfl⟩
  obtain ⟨c0, c1, c2, c3⟩ := B1.out.ext (hx2.trans (hx3.trans hx4))
  have HXX := hid (HX.out.trans (hx2.trans (hx3.trans hx4)))
  by_cases z1 : (putB (s, k, n, es)).2 = 0
  · have o1 := P1.out z1
    have o2 := Q1.out z1
    have HBF := hid (batF_put (s, k, n, es) (putB (s, k, n, es)).1 (Prod.ext rfl z1) HBI.out)
    have hpl := (putB_ok (x := (s, k, n, es)) (b := (putB (s, k, n, es)).1) (Prod.ext rfl z1)).2.2.2
    rw [z1]
    generalize (putB (s, k, n, es)).1 = P at *
    obtain ⟨a1, b1, rfl⟩ := OwnB.slice o1
    obtain ⟨a2, b2, rfl⟩ := OwnB.slice o2
    have hr1 := RdB.ext (rdB_own o1) hx4
    have hrd := hr1.drop b.length (by simp)
    have hb1 : b1 ≤ 9223372036854775807 ∧ (b ++ P).length ≤ b1 := by obtain ⟨_, _, e, hh1, hh2, -⟩ := id hr1; simp only [Value.slice.injEq] at e; unfold maxLen at hh2; omega
    rw [List.drop_left] at hrd
    have HRD := hid hrd
    have HO1 := hid (o1.ext hx4)
    have HO2 := hid o2
    obtain ⟨hb1, hb1'⟩ := hb1
    have hlen : (b ++ P).length = b.length + P.length := List.length_append
    have HLEN := hid hlen
    clear o1 o2 z1 hr1 hrd
    go_wp2_with (first | ((with_reducible refine at_slice ?_); go_must (refine wl_slice_l rfl rfl Try.underlying54 sizeU8 rfl rfl b.length rfl ?_ ?_; omega)))
    refine Calls.mono (Batch_any w4 _ P ?_ (by omega)) ?_
    · have := HRD.out
      rwa [show (b ++ P).length - b.length = P.length by rw [List.length_append]; omega] at this
    clear hlen
    rintro e w6 ⟨y1, y2, hx6⟩
    rw [HBF.out] at y1 y2
    obtain ⟨yv, he6, hy⟩ := y2 rfl
    dsimp only at he6 hy
    subst he6
    have HY := hid hy
    clear y1 y2 hy c0 c1 c2 c3
    obtain ⟨c0, c1, c2, c3⟩ := B1.out.ext (hx2.trans (hx3.trans (hx4.trans hx6)))
    obtain ⟨ya, yc, rfl, -⟩ := HY.out.slice
    have hlt6 : w.heap.size < w6.heap.size := by have := World.block_lt_of_cell? _ _ c0; exact this
    have hne6 : ¬ w.heap.size = w6.heap.size := by omega
    go_wp2_with fail
    refine Calls.mono (SameBatch_any _ _ _ s s k k n n _ _ es es (RdS.ext (H4.out.ext (HXX.out.trans hx6)) ?_) (RdS.ext HY.out ?_)) ?_
    · (· repeat (first | (with_reducible assumption) | exact Ext.refl _ | refine Ext.alloc ?_ _ | refine Ext.drew ?_ | refine Ext.drewN ?_ _ | (apply Ext.snart; (with_reducible assumption))))
    · (· repeat (first | (with_reducible assumption) | exact Ext.refl _ | refine Ext.alloc ?_ _ | refine Ext.drew ?_ | refine Ext.drewN ?_ _ | (apply Ext.snart; (with_reducible assumption))))
    rw [decide_eq_true rfl]
    rintro e w7 ⟨rfl, hb7⟩
    have hx7 := Ext.of hb7
    clear hb7 c0 c1 c2 c3
    have hx67 : Ext w4 w7 := by (· repeat (first | (with_reducible assumption) | exact Ext.refl _ | refine Ext.alloc ?_ _ | refine Ext.drew ?_ | refine Ext.drewN ?_ _ | (apply Ext.snart; (with_reducible assumption))))
    clear hx6 hx7
    go_wp2_with fail
    rw [← HLEN.out]
    refine (behind_any w7 w2.heap.size _ _ _ (b ++ P) b P rfl (HO1.out.ext hx67) (HB.out.ext (HXX.out.trans hx67)) (rdB_own (HO2.out.ext hx67)) (by rw [HLEN.out]; omega) (by have := hx67.size; have := hx3.size; have := hx4.size; omega)).mono ?_
    rintro e w8 ⟨rfl, hb8⟩
    have hsz := (HX.out.trans hx2).size
    go_wp2_with fail
    go_ret
    exact ⟨rfl, Below.trans (HXX.out.trans hx67) (Below.mono hb8 hsz)⟩
  · obtain rfl := P2.out z1
    have z3 : ((((putB (s, k, n, es)).2 : Nat) : Int) == 0) = false := by rw [beq_eq_false_iff_ne]; omega
    have z4 : ((((putB (s, k, n, es)).2 : Nat) : Int) != 0) = true := by rw [bne_iff_ne]; omega
    clear z1
    generalize (putB (s, k, n, es)).2 = N at *
    go_wp2_with fail
    go_ret
    exact ⟨rfl, HXX.out⟩
end Go.Proofs.Ythobhkmphjnlaaa
