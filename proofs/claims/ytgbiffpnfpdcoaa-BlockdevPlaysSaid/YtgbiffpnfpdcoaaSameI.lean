/- The reference's SameInts, walked. -/
import Derived.Test.YtgbiffpnfpdcoaaInts
import Derived.Deep.QuietTactic
import Derived.BigQuiet
namespace Go.Proofs.Ytgbiffpnfpdcoaa
open Go.RowKit
set_option linter.unusedVariables false
set_option linter.unusedSimpArgs false

set_option maxRecDepth 100000 in
set_option maxHeartbeats 1000000 in
theorem SameInts_any (w : World) (va vb : Value) (fs gs : List Int) (ha : RdI w va fs) (hb : RdI w vb gs) :
    Calls Try.prog 64 #[va, vb] w fun e w' => e = .returned (.bool (decide (fs = gs))) ∧ Below w.heap.size w w' := by
  have HA := hid ha
  have HB := hid hb
  obtain ⟨a, cap, rfl, h1, h2⟩ := ha.slice
  obtain ⟨b, capb, rfl, k1, k2⟩ := hb.slice
  clear ha hb
  by_cases hn : fs.length = gs.length
  · have hn' : (fs.length : Int) = (gs.length : Int) := by omega
    have hn'' : decide ((fs.length : Int) = (gs.length : Int)) = true := by simp [hn]
    go_enter Try.func64, Try.ntmps64
    go_wp2_with fail
    go_loopw [5] (fun i wr => ∃ k : Nat, k ≤ fs.length ∧ i = .int .i64 k ∧ fs.take k = gs.take k ∧ Ext w wr) (fun i _ => fs.length - (intOf i).toNat)
    case atStart => exact ⟨0, by omega, rfl, rfl, Ext.refl _⟩
    case round =>
      obtain ⟨k, hk, rfl, heq, hx⟩ := hrel
      have HE := hid heq
      clear heq
      by_cases hl : k < fs.length
      · have hl' : k < gs.length := by omega
        obtain ⟨g, o, c1, e, hg, c0⟩ := (HA.out.ext hx).at k hl
        simp only [Value.slice.injEq] at e
        obtain ⟨rfl, -, rfl⟩ := e
        obtain ⟨g', o', c2, e, hg', d0⟩ := (HB.out.ext hx).at k hl'
        simp only [Value.slice.injEq] at e
        obtain ⟨rfl, -, rfl⟩ := e
        have T1 := hid (List.take_succ_eq_append_getElem hl)
        have T2 := hid (List.take_succ_eq_append_getElem hl')
        obtain ⟨x, hx'⟩ : ∃ x, x = fs[k] := ⟨_, rfl⟩
        obtain ⟨y, hy⟩ : ∃ y, y = gs[k] := ⟨_, rfl⟩
        rw [← hx'] at c0 T1
        rw [← hy] at d0 T2
        have i1 : (k : Int) < (fs.length : Int) := by omega
        have i2 : (k : Int) < (gs.length : Int) := by omega
        have i3 : (0 : Int) ≤ (k : Int) := by omega
        have HX := hid hx'
        have HY := hid hy
        clear hx' hy
        by_cases q1 : x = y
        · have t1 : ((x : Int) == y) = true := by simpa using q1
          have Q := hid q1
          clear q1
          go_wp2_with fail
          go_quiet (fail)
          go_wp2_with fail
          go_roundw
          case rel => exact ⟨k + 1, by omega, by go_num, by rw [T1.out, T2.out, HE.out, Q.out], hx.drewN _⟩
          case measure => simp [intOf]; omega
        · have t1 : ((x : Int) == y) = false := by simpa using q1
          have Q := hid (show ¬ fs = gs from fun e => by subst e; exact q1 (HX.out.trans HY.out.symm))
          clear q1
          go_wp2_with fail
          go_quiet (fail)
          go_wp2_with fail
          go_ret
          exact ⟨congrArg (fun b => Ending.returned (.bool b)) (decide_eq_false Q.out).symm, hx.drewN _⟩
      · obtain rfl : k = fs.length := by omega
        go_wp2_with fail
        go_ret
        refine ⟨?_, hx⟩
        have : fs = gs := by
          have := HE.out
          rwa [List.take_length, List.take_of_length_le (by omega)] at this
        simp [this]
  · have hn' : ¬ (fs.length : Int) = (gs.length : Int) := by omega
    go_enter Try.func64, Try.ntmps64
    go_wp2_with fail
    go_ret
    have : ¬ fs = gs := fun e => hn (by rw [e])
    exact ⟨by simp [this], Below.refl _ _⟩
end Go.Proofs.Ytgbiffpnfpdcoaa
