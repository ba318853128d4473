/- A []api.Run that comes in. -/
import Derived.Test.YtbpcgfplokkfpaaOpn
namespace Go.Proofs.Ytbpcgfplokkfpaa
open Go.ChangeShapes Go.WideShapes Go.ChangeAt Go.RowKit Go.Deep
theorem opens_Rn : Opens (rPair rI rI) (bSt (bP bOne bOne)) 43 :=
  opens_St Try.underlying43 (by kernel_rfl) (opensFs_cons (opens_I Try.underlying3 (by kernel_rfl)) rfl rfl (opensFs_one (opens_I Try.underlying3 (by kernel_rfl)) rfl rfl))
theorem opens_Rs : Opens (rSl (rPair rI rI)) (bL (bSt (bP bOne bOne))) 37 := opens_L opens_Rn Try.underlying37 (by kernel_rfl) (by decide)
set_option maxRecDepth 100000 in
theorem arg_Rs {H : Type} {enc : TypeId × Value → H} {W : World} {base : Nat} {v : Value} {d : DataW H} {ps : List MemPlace} (hval : Value.okWide Try.prog W .any base 37 v) (hr : ∃ fuel, DataW.trod enc Try.prog W 0 (fun _ => true) true fuel 37 v.cells.toList = some (d, ps)) :
    ∃ xs, RdS (rPair rI rI) W (fun k => k < W.heap.size) v xs ∧ ∀ n, Rows.uptoBulk d ≤ n → bL (bSt (bP bOne bOne)) xs ≤ n := arg_L opens_Rs Try.underlying37 hval hr
end Go.Proofs.Ytbpcgfplokkfpaa
