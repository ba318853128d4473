/- The reference's SameRuns and SameInts, walked. -/
import Derived.Test.YtbpcgfplokkfpaaRun
import Derived.Test.YtbpcgfplokkfpaaInts
import Derived.Laws.StructEq
import Derived.Deep.QuietTactic
import Derived.BigQuiet
namespace Go.Proofs.Ytbpcgfplokkfpaa
open Go.RowKit
set_option linter.unusedVariables false
set_option linter.unusedSimpArgs false

set_option maxRecDepth 100000 in
set_option maxHeartbeats 1000000 in
theorem SameRuns_any (w : World) (va vb : Value) (fs gs : List Run) (ha : RdR w va fs) (hb : RdR w vb gs) :
    Calls Try.prog 33 #[va, vb] w fun e w' => e = .returned (.bool (decide (fs = gs))) ∧ Below w.heap.size w w' := by
  have HA := hid ha
  have HB := hid hb
  obtain ⟨a, cap, rfl, h1, h2⟩ := ha.slice
  obtain ⟨b, capb, rfl, k1, k2⟩ := hb.slice
  clear ha hb
  by_cases hn : fs.length = gs.length
  · have hn' : (fs.length : Int) = (gs.length : Int) := by omega
    have hn'' : decide ((fs.length : Int) = (gs.length : Int)) = true := by simp [hn]
    go_enter Try.func33, Try.ntmps33
    go_wp2_with fail
    go_loopw [5] (fun i wr => ∃ k : Nat, k ≤ fs.length ∧ i = .int .i64 k ∧ fs.take k = gs.take k ∧ Ext w wr) (fun i _ => fs.length - (intOf i).toNat)
    case atStart => exact ⟨0, by omega, rfl, rfl, Ext.refl _⟩
    case round =>
      obtain ⟨k, hk, rfl, heq, hx⟩ := hrel
      have HE := hid heq
      clear heq
      by_cases hl : k < fs.length
      · have hl' : k < gs.length := by omega
        obtain ⟨g, o, c1, e, hg, c0, c1'⟩ := (HA.out.ext hx).at k hl
        simp only [Value.slice.injEq] at e
        obtain ⟨rfl, -, rfl⟩ := e
        obtain ⟨g', o', c2, e, hg', d0, d1⟩ := (HB.out.ext hx).at k hl'
        simp only [Value.slice.injEq] at e
        obtain ⟨rfl, -, rfl⟩ := e
        have T1 := hid (List.take_succ_eq_append_getElem hl)
        have T2 := hid (List.take_succ_eq_append_getElem hl')
        obtain ⟨x, hx'⟩ : ∃ x, x = fs[k] := ⟨_, rfl⟩
        obtain ⟨y, hy⟩ : ∃ y, y = gs[k] := ⟨_, rfl⟩
        rw [← hx'] at c0 c1' T1
        rw [← hy] at d0 d1 T2
        obtain ⟨x1, x2⟩ := x
        obtain ⟨y1, y2⟩ := y
        dsimp only at c0 c1' d0 d1
        have i1 : (k : Int) < (fs.length : Int) := by omega
        have i2 : (k : Int) < (gs.length : Int) := by omega
        have i3 : (0 : Int) ≤ (k : Int) := by omega
        have HX := hid hx'
        have HY := hid hy
        clear hx' hy
        by_cases q1 : x1 = y1
        · have t1 : ((x1 : Int) == y1) = true := by simpa using q1
          by_cases q2 : x2 = y2
          · have t2 : ((x2 : Int) == y2) = true := by simpa using q2
            have Q := hid (show ((x1, x2) : Run) = (y1, y2) by rw [q1, q2])
            clear q1 q2
            go_wp2_with fail
            go_quiet (fail)
            go_wp2_with fail
            go_roundw
            case rel => exact ⟨k + 1, by omega, by go_num, by rw [T1.out, T2.out, HE.out, Q.out], hx.drewN _⟩
            case measure => simp [intOf]; omega
          · have t2 : ((x2 : Int) == y2) = false := by simpa using q2
            clear q1
            go_wp2_with fail
            go_quiet (fail)
            go_wp2_with fail
            go_ret
            refine ⟨?_, hx.drewN _⟩
            have : ¬ fs = gs := fun e => by
              subst e
              have := HX.out.trans HY.out.symm
              simp only [Prod.mk.injEq] at this
              omega
            simp [this]
        · have t1 : ((x1 : Int) == y1) = false := by simpa using q1
          have t1' : True := trivial
          · go_wp2_with fail
            go_quiet (fail)
            go_wp2_with fail
            go_ret
            refine ⟨?_, hx.drewN _⟩
            have : ¬ fs = gs := fun e => by
              subst e
              have := HX.out.trans HY.out.symm
              simp only [Prod.mk.injEq] at this
              omega
            simp [this]
      · obtain rfl : k = fs.length := by omega
        go_wp2_with fail
        go_ret
        refine ⟨?_, hx⟩
        have : fs = gs := by
          have := HE.out
          rwa [List.take_length, List.take_of_length_le (by omega)] at this
        simp [this]
  · have hn' : ¬ (fs.length : Int) = (gs.length : Int) := by omega
    go_enter Try.func33, Try.ntmps33
    go_wp2_with fail
    go_ret
    have : ¬ fs = gs := fun e => hn (by rw [e])
    exact ⟨by simp [this], Below.refl _ _⟩
end Go.Proofs.Ytbpcgfplokkfpaa
