/- CodecApart, walked. -/
import Derived.Test.YthobhkmphjnlaaaAwake
import Derived.Test.YthobhkmphjnlaaaSameB
import Derived.Test.YthobhkmphjnlaaaPutB
namespace Go.Proofs.Ythobhkmphjnlaaa
open Go.RowKit
set_option linter.unusedVariables false
set_option linter.unusedSimpArgs false
attribute [local go_sem ↓] Go.wp_at_zero Go.wp_at_succ

theorem PutBEnd.open {w : World} {b : List UInt8} {x : Bat} {e : Ending} {w' : World} (h : PutBEnd w b x e w') :
    ∃ v', e = .returned (.tuple #[v', .int .i64 (((putB x).2 : Nat) : Int)]) ∧ ((putB x).2 = 0 → OwnB w' w.heap.size v' (b ++ (putB x).1)) ∧ ((putB x).2 ≠ 0 → v' = .slice none 0 0) ∧ Ext w w' := by
  obtain ⟨h1, h2, h3⟩ := h
  by_cases hc : (putB x).2 = 0
  · obtain ⟨v', e1, e2⟩ := h1 hc
    exact ⟨v', by rw [hc]; exact e1, fun _ => e2, fun e => absurd hc e, h3⟩
  · exact ⟨.slice none 0 0, h2 hc, fun e => absurd e hc, fun _ => rfl, h3⟩

def Box4 (w : World) (g : Nat) (s k : ByteArray) (n : Int) (ev : Value) : Prop :=
  w.cell? ⟨g, 0, none⟩ = some (.string s) ∧ w.cell? ⟨g, 1, none⟩ = some (.string k) ∧ w.cell? ⟨g, 2, none⟩ = some (.int .i64 n) ∧ w.cell? ⟨g, 3, none⟩ = some ev
theorem Box4.ext {w w' : World} {g : Nat} {s k : ByteArray} {n : Int} {ev : Value} (h : Box4 w g s k n ev) (hx : Ext w w') : Box4 w' g s k n ev :=
  ⟨Ext.cellS hx h.1, Ext.cellS hx h.2.1, Ext.cellS hx h.2.2.1, Ext.cellS hx h.2.2.2⟩
theorem batI_of {w : World} {S : Nat → Prop} {ev : Value} {x : Bat} (h : RdS rE w S ev x.2.2.2) : batI x := by
  intro e he f hf
  obtain ⟨i, hi, rfl⟩ := List.getElem_of_mem he
  obtain ⟨g, o, cap, fv, -, -, -, -, -, -, -, -, h2⟩ := h.atE i hi
  obtain ⟨j, hj, rfl⟩ := List.getElem_of_mem hf
  obtain ⟨g', o', cap', -, -, -, -, -, -, -, -, h3, -⟩ := h2.atF j hj
  exact h3
theorem putB_inj {x y : Bat} (hx : batI x) (hy : batI y) (h1 : (putB x).2 = 0) (h2 : (putB y).2 = 0) (h : (putB x).1 = (putB y).1) : x = y := by
  have e1 : batF (putB x).fst = (x, 0) := batF_put x _ (Prod.ext rfl h1) hx
  have e2 : batF (putB y).fst = (y, 0) := batF_put y _ (Prod.ext rfl h2) hy
  rw [h, e2] at e1
  exact (Prod.mk.inj e1).1.symm

set_option maxRecDepth 100000 in
set_option maxHeartbeats 2000000 in
theorem codecApart_walk (w : World) (v : Value) (x : Bat) (rd : ∃ ev, v = .agg #[.string x.1, .string x.2.1, .int .i64 x.2.2.1, ev] ∧ x.1.size ≤ 9223372036854775807 ∧ x.2.1.size ≤ 9223372036854775807 ∧ (-9223372036854775808 ≤ x.2.2.1 ∧ x.2.2.1 ≤ 9223372036854775807) ∧ RdS rE w (fun k => k < w.heap.size) ev x.2.2.2)
    (u : Value) (y : Bat) (rd2 : ∃ ev, u = .agg #[.string y.1, .string y.2.1, .int .i64 y.2.2.1, ev] ∧ y.1.size ≤ 9223372036854775807 ∧ y.2.1.size ≤ 9223372036854775807 ∧ (-9223372036854775808 ≤ y.2.2.1 ∧ y.2.2.1 ≤ 9223372036854775807) ∧ RdS rE w (fun k => k < w.heap.size) ev y.2.2.2) :
    Calls Try.prog 7 #[v, u] w fun e w' => e = .returned (.bool true) ∧ Below w.heap.size w w' := by
  obtain ⟨ev, rfl, h1, h2, h3, h4⟩ := rd
  obtain ⟨eu, rfl, k1, k2, k3, k4⟩ := rd2
  have HI := hid (fun a b c => putB_inj (batI_of h4) (batI_of k4) a b c)
  obtain ⟨s, k, n, es⟩ := x
  obtain ⟨t, l, m, fs⟩ := y
  dsimp only at h1 h2 h3 h4 k1 k2 k3 k4 ⊢
  obtain ⟨ea, ec, rfl, -⟩ := h4.slice
  obtain ⟨fa, fc, rfl, -⟩ := k4.slice
  have H4 := hid h4
  have K4 := hid k4
  clear h4 k4
  go_enter Try.func7, Try.ntmps7
  go_wp2_with fail
  refine (awake_any _).mono ?_
  rintro e w' ⟨rfl, hb'⟩
  have hx' := Ext.of hb'
  clear hb'
  have B1 := hid (show Box4 w' w.heap.size s k n (.slice ea es.length ec) from Box4.ext ⟨by simp [go_sem], by simp [go_sem], by simp [go_sem], by simp [go_sem]⟩ hx')
  have B2 := hid (show Box4 w' (w.heap.size + 1) t l m (.slice fa fs.length fc) from Box4.ext ⟨by simp [go_sem], by simp [go_sem], by simp [go_sem], by simp [go_sem]⟩ hx')
  have HX := hid (show Ext w w' by (· repeat (first | (with_reducible assumption) | exact Ext.refl _ | refine Ext.alloc ?_ _ | refine Ext.drew ?_ | refine Ext.drewN ?_ _ | (apply Ext.snart; (with_reducible assumption)))))
  clear hx'
  obtain ⟨w1, rfl⟩ : ∃ w1 : World, w1 = w' := ⟨_, rfl⟩
  obtain ⟨c0, c1, c2, c3⟩ := B1.out
  go_wp2_with fail
  refine Calls.mono (PutBatch_any w1 _ _ [] (RdB.nil _) (by simp) s k n _ es h1 h2 h3 (H4.out.ext HX.out)) ?_
  intro e w2 hend
  obtain ⟨v1, rfl, p1, p2, hx2⟩ := hend.open
  clear hend c0 c1 c2 c3
  have P1 := hid p1
  have P2 := hid p2
  clear p1 p2
  obtain ⟨c0, c1, c2, c3⟩ := B2.out.ext hx2
  go_wp2_with fail
  refine Calls.mono (PutBatch_any w2 _ _ [] (RdB.nil _) (by simp) t l m _ fs k1 k2 k3 (K4.out.ext (HX.out.trans hx2))) ?_
  intro e w3 hend
  obtain ⟨v2, rfl, q1, q2, hx3⟩ := hend.open
  clear hend c0 c1 c2 c3
  have Q1 := hid q1
  have Q2 := hid q2
  clear q1 q2
  by_cases z1 : (putB (s, k, n, es)).2 = 0
  · by_cases z2 : (putB (t, l, m, fs)).2 = 0
    · have o1 := P1.out z1
      have o2 := Q1.out z2
      have HJ := hid (HI.out z1 z2)
      rw [z1, z2]
      have HEQ := hid (show ((s, k, n, es) : Bat) = (t, l, m, fs) → (putB (s, k, n, es)).1 = (putB (t, l, m, fs)).1 from fun e => by rw [e])
      simp only [List.nil_append] at o1 o2
      generalize (putB (s, k, n, es)).1 = X1 at *
      generalize (putB (t, l, m, fs)).1 = X2 at *
      obtain ⟨a1, b1, rfl⟩ := OwnB.slice o1
      obtain ⟨a2, b2, rfl⟩ := OwnB.slice o2
      obtain ⟨c0, c1, c2, c3⟩ := B1.out.ext (hx2.trans hx3)
      obtain ⟨d0, d1, d2, d3⟩ := B2.out.ext (hx2.trans hx3)
      have R1 := hid (RdB.ext (rdB_own o1) hx3)
      have R2 := hid (rdB_own o2)
      clear o1 o2 z1 z2
      go_wp2_with fail
      refine Calls.mono (SameBatch_any w3 _ _ s t k l n m _ _ es fs (H4.out.ext (HX.out.trans (hx2.trans hx3))) (K4.out.ext (HX.out.trans (hx2.trans hx3)))) ?_
      rintro e w4 ⟨rfl, hx4⟩
      clear c0 c1 c2 c3 d0 d1 d2 d3
      have r1 := run_strB (R1.out.ext hx4)
      have r2 := run_strB (R2.out.ext hx4)
      have hxx : Ext w w4 := HX.out.trans (hx2.trans (hx3.trans hx4))
      by_cases q : ((s, k, n, es) : Bat) = (t, l, m, fs)
      · rw [decide_eq_true q]
        have e3 : X1 = X2 := HEQ.out q
        clear q
        subst e3
        go_wp2_with fail
        go_ret
        exact ⟨rfl, hxx⟩
      · rw [decide_eq_false q]
        have e3 : ¬ X1 = X2 := fun e => q (HJ.out e)
        have e4 : (X1 == X2) = false := by simpa using e3
        clear q
        go_wp2_with fail
        go_ret
        exact ⟨rfl, hxx⟩
    · obtain rfl := Q2.out z2
      have z3 : ((((putB (t, l, m, fs)).2 : Nat) : Int) == 0) = false := by rw [beq_eq_false_iff_ne]; omega
      rw [z1]
      clear z1 z2
      generalize (putB (t, l, m, fs)).2 = N at *
      go_wp2_with fail
      go_ret
      exact ⟨rfl, HX.out.trans (hx2.trans hx3)⟩
  · obtain rfl := P2.out z1
    have z3 : ((((putB (s, k, n, es)).2 : Nat) : Int) == 0) = false := by rw [beq_eq_false_iff_ne]; omega
    clear z1
    generalize (putB (s, k, n, es)).2 = N at *
    generalize (putB (t, l, m, fs)).2 = M at *
    go_wp2_with fail
    go_ret
    exact ⟨rfl, HX.out.trans (hx2.trans hx3)⟩
end Go.Proofs.Ythobhkmphjnlaaa
