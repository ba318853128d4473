/- CodecChecks, walked. -/
import Derived.Test.YthobhkmphjnlaaaAwake
import Derived.Test.YthobhkmphjnlaaaRCheck
import Derived.Deep.RegionHeld3
namespace Go.Proofs.Ythobhkmphjnlaaa
open Go.RowKit
set_option linter.unusedVariables false
set_option linter.unusedSimpArgs false
attribute [local go_sem ↓] Go.wp_at_zero Go.wp_at_succ

set_option maxRecDepth 100000 in
set_option maxHeartbeats 1000000 in
theorem codecChecks_walk (w : World) (v : Value) (x : Ev) (rd : ∃ fv, v = .agg #[.string x.1, .int .i64 x.2.1, fv] ∧ x.1.size ≤ 9223372036854775807 ∧ (-9223372036854775808 ≤ x.2.1 ∧ x.2.1 ≤ 9223372036854775807) ∧ RdS rF w (fun k => k < w.heap.size) fv x.2.2) :
    Calls Try.prog 5 #[v] w fun e w' => e = .returned (.bool true) ∧ Below w.heap.size w w' := by
  obtain ⟨fv, rfl, h1, h2, h3⟩ := rd
  obtain ⟨t, n, fs⟩ := x
  dsimp only at h1 h2 h3 ⊢
  obtain ⟨fa, fc, rfl, -⟩ := h3.slice
  go_enter Try.func5, Try.ntmps5
  go_wp2_with (first | (go_at_call 22; go_must (refine (awake_any _).mono ?_; rintro e w' ⟨rfl, hb'⟩; have hx' := Ext.of hb'; clear hb')))
  have c0 : w'.cell? ⟨w.heap.size, 0, none⟩ = some (.string t) := Ext.cellS hx' (by simp [go_sem])
  have c1 : w'.cell? ⟨w.heap.size, 1, none⟩ = some (.int .i64 n) := Ext.cellS hx' (by simp [go_sem])
  have c2 : w'.cell? ⟨w.heap.size, 2, none⟩ = some (.slice fa fs.length fc) := Ext.cellS hx' (by simp [go_sem])
  have hx0 : Ext w w' := by (· repeat (first | (with_reducible assumption) | exact Ext.refl _ | refine Ext.alloc ?_ _ | refine Ext.drew ?_ | refine Ext.drewN ?_ _ | (apply Ext.snart; (with_reducible assumption))))
  clear hx'
  go_region_held3 (fun w' => w'.cell? ⟨w.heap.size, 0, none⟩ = some (.string t) ∧ w'.cell? ⟨w.heap.size, 1, none⟩ = some (.int .i64 n) ∧ w'.cell? ⟨w.heap.size, 2, none⟩ = some (.slice fa fs.length fc)) (first | go_keep | (go_split_ands; exact ⟨Ext.cellS hx' (by assumption), Ext.cellS hx' (by assumption), Ext.cellS hx' (by assumption)⟩)) (first | (go_at_call 23; go_must (refine (Check_any _ _ t n _ fs h1 h2 (RdS.ext h3 (by (· repeat (first | (with_reducible assumption) | exact Ext.refl _ | refine Ext.alloc ?_ _ | refine Ext.drew ?_ | refine Ext.drewN ?_ _ | (apply Ext.snart; (with_reducible assumption))))))).mono ?_; rintro e w' ⟨rfl, hb'⟩; have hx' := Ext.of hb'; clear hb')) | (go_at_call 24; go_must (refine (RCheck_any _ _ t n _ fs h1 h2 (RdS.ext h3 (by (· repeat (first | (with_reducible assumption) | exact Ext.refl _ | refine Ext.alloc ?_ _ | refine Ext.drew ?_ | refine Ext.drewN ?_ _ | (apply Ext.snart; (with_reducible assumption))))))).mono ?_; rintro e w' ⟨rfl, hb'⟩; have hx' := Ext.of hb'; clear hb')))
  all_goals
    go_wp2_with fail
    trace_state
    go_ret
    exact ⟨rfl, by show Ext _ _; (· repeat (first | (with_reducible assumption) | exact Ext.refl _ | refine Ext.alloc ?_ _ | refine Ext.drew ?_ | refine Ext.drewN ?_ _ | (apply Ext.snart; (with_reducible assumption))))⟩
end Go.Proofs.Ythobhkmphjnlaaa
