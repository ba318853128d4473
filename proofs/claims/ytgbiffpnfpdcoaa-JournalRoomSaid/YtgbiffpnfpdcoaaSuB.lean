/- super: both, walked. -/
import Derived.Test.YtgbiffpnfpdcoaaSuA
namespace Go.Proofs.Ytgbiffpnfpdcoaa
open Go.RowKit Go.Maps
set_option linter.unusedVariables false
set_option linter.unusedSimpArgs false

theorem ret_boolS {a b : Bool} (h : a = b) : Ending.returned (.bool a) = .returned (.bool b) := by rw [h]
set_option maxRecDepth 100000 in
set_option maxHeartbeats 2000000 in
theorem newer_a (w : World) (gS gN : Nat) (i : Nat) (hi : i = 0 ∨ i = 1) (ok : Bool) (h0 : w.cell? ⟨gS, i * 3, none⟩ = some (.bool ok)) (hN : w.cell? ⟨gN, 0, none⟩ = some (.int .i64 (-1))) :
    Calls Try.prog 80 #[.int .i64 i, .pointer (some ⟨gS, 0, none⟩), .pointer (some ⟨gN, 0, none⟩)] w fun e w' => e = .returned (.bool ok) ∧ Ext w w' := by
  cases ok
  all_goals
    rcases hi with rfl | rfl
    all_goals
      simp only [Nat.zero_mul, Nat.one_mul] at h0
      go_enter Try.func80, Try.ntmps80
      go_wp2_with fail
      go_region
      all_goals
        go_wp2_with fail
        go_ret
        exact ⟨rfl, by (· repeat (first | (with_reducible assumption) | exact Ext.refl _ | refine Ext.alloc ?_ _ | refine Ext.drew ?_ | refine Ext.drewN ?_ _ | (apply Ext.snart; (with_reducible assumption))))⟩
set_option maxRecDepth 100000 in
set_option maxHeartbeats 2000000 in
theorem newer_b (w : World) (gS gN : Nat) (ok : Bool) (c0 c1 : Int) (h0 : w.cell? ⟨gS, 3, none⟩ = some (.bool ok)) (h1 : w.cell? ⟨gS, 4, none⟩ = some (.int .i64 c1)) (h2 : w.cell? ⟨gS, 1, none⟩ = some (.int .i64 c0)) (hN : w.cell? ⟨gN, 0, none⟩ = some (.int .i64 0)) :
    Calls Try.prog 80 #[.int .i64 1, .pointer (some ⟨gS, 0, none⟩), .pointer (some ⟨gN, 0, none⟩)] w fun e w' => e = .returned (.bool (ok && decide (c0 < c1))) ∧ Ext w w' := by
  cases ok
  · go_enter Try.func80, Try.ntmps80
    go_wp2_with fail
    go_region
    all_goals
      go_wp2_with fail
      go_ret
      exact ⟨rfl, by (· repeat (first | (with_reducible assumption) | exact Ext.refl _ | refine Ext.alloc ?_ _ | refine Ext.drew ?_ | refine Ext.drewN ?_ _ | (apply Ext.snart; (with_reducible assumption))))⟩
  · by_cases hc : c0 < c1
    all_goals
      have HC := hid hc
      go_enter Try.func80, Try.ntmps80
      go_wp2_with fail
      go_region
      all_goals
        go_wp2_with fail
        go_ret
        exact ⟨ret_boolS (by simp [HC.out]), by (· repeat (first | (with_reducible assumption) | exact Ext.refl _ | refine Ext.alloc ?_ _ | refine Ext.drew ?_ | refine Ext.drewN ?_ _ | (apply Ext.snart; (with_reducible assumption))))⟩
end Go.Proofs.Ytgbiffpnfpdcoaa
