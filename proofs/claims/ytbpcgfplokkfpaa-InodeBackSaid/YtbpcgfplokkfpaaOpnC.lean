/- A []Call of the inode laws that comes in: opened. -/
import Derived.Test.YtbpcgfplokkfpaaOpn
import Derived.Test.YtbpcgfplokkfpaaCallI
namespace Go.Proofs.Ytbpcgfplokkfpaa
open Go.ChangeShapes Go.WideShapes Go.ChangeAt Go.RowKit Go.Deep
set_option linter.unusedVariables false
set_option linter.unusedSimpArgs false
theorem opensC_I : Opens rI bOne 3 := opens_I Try.underlying3 (by kernel_rfl)
theorem opensC_B : Opens rBo bOne 4 := opens_Bo Try.underlying4 (by kernel_rfl)
theorem opensC_R : Opens (rPair rI rI) (bSt (bP bOne bOne)) 43 :=
  opens_St Try.underlying43 (by kernel_rfl) (opensFs_cons opensC_I rfl rfl (opensFs_one opensC_I rfl rfl))
theorem opensC_Rs : Opens (rSl (rPair rI rI)) (bL (bSt (bP bOne bOne))) 37 := opens_L opensC_R Try.underlying37 (by kernel_rfl) (by decide)
def bCallI : CallI → Nat := bSt (bP bOne (bP bOne (bP (bL (bSt (bP bOne bOne))) bOne)))
theorem opens_CallI : Opens rCallI bCallI 74 :=
  opens_St Try.underlying74 (by kernel_rfl) (opensFs_cons opensC_I rfl rfl (opensFs_cons opensC_I rfl rfl (opensFs_cons opensC_Rs rfl rfl (opensFs_one opensC_B rfl rfl))))
theorem opens_CallIs : Opens (rSl rCallI) (bL bCallI) 67 := opens_L opens_CallI Try.underlying67 (by kernel_rfl) (by decide)
set_option maxRecDepth 100000 in
theorem arg_CallIs {H : Type} {enc : TypeId × Value → H} {W : World} {base : Nat} {v : Value} {d : DataW H} {ps : List MemPlace} (hval : Value.okWide Try.prog W .any base 67 v) (hr : ∃ fuel, DataW.trod enc Try.prog W 0 (fun _ => true) true fuel 67 v.cells.toList = some (d, ps)) :
    ∃ xs, RdS rCallI W (fun k => k < W.heap.size) v xs ∧ ∀ n, Rows.uptoBulk d ≤ n → bL bCallI xs ≤ n := arg_L opens_CallIs Try.underlying67 hval hr
end Go.Proofs.Ytbpcgfplokkfpaa
