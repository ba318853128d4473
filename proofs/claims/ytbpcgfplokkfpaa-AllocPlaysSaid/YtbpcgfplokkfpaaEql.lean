/- bytes.Equal, walked. -/
import Derived.Test.YtbpcgfplokkfpaaOwB
namespace Go.Proofs.Ytbpcgfplokkfpaa
open Go.RowKit
set_option linter.unusedVariables false
set_option linter.unusedSimpArgs false
theorem eql_ret {a b : Bool} (h : a = b) : Ending.returned (.bool a) = Ending.returned (.bool b) := by rw [h]
set_option maxRecDepth 100000 in
set_option maxHeartbeats 400000 in
theorem Eql_any (w : World) (va vb : Value) (a b : List UInt8) (ha : RdB w va a) (hb : RdB w vb b) :
    Calls Try.prog 77 #[va, vb] w fun e w' => e = .returned (.bool (decide (a = b))) ∧ w = w' := by
  have h1 := run_strB ha
  have h2 := run_strB hb
  obtain ⟨aa, ac, rfl, -⟩ := ha
  obtain ⟨ba, bc, rfl, -⟩ := hb
  by_cases h : a = b
  · subst h
    go_enter Try.func77, Try.ntmps77
    go_wp2_with fail
    go_ret
    exact ⟨eql_ret (by simp), rfl⟩
  · have t := (beq_eq_false_iff_ne (a := a) (b := b)).2 h
    have HD := hid (decide_eq_false h)
    clear h
    go_enter Try.func77, Try.ntmps77
    go_wp2_with fail
    go_ret
    exact ⟨eql_ret (by rw [HD.out]), rfl⟩
end Go.Proofs.Ytbpcgfplokkfpaa
