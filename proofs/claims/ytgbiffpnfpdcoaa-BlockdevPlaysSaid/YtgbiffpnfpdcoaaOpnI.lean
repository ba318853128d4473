/- A []int that comes in. -/
import Derived.Test.YtgbiffpnfpdcoaaOpn
namespace Go.Proofs.Ytgbiffpnfpdcoaa
open Go.ChangeShapes Go.WideShapes Go.ChangeAt Go.RowKit Go.Deep
theorem opens_Is : Opens (rSl rI) (bL bOne) 33 := opens_L (opens_I Try.underlying3 (by kernel_rfl)) Try.underlying33 (by kernel_rfl) (by decide)
set_option maxRecDepth 100000 in
theorem arg_Is {H : Type} {enc : TypeId × Value → H} {W : World} {base : Nat} {v : Value} {d : DataW H} {ps : List MemPlace} (hval : Value.okWide Try.prog W .any base 33 v) (hr : ∃ fuel, DataW.trod enc Try.prog W 0 (fun _ => true) true fuel 33 v.cells.toList = some (d, ps)) :
    ∃ xs, RdS rI W (fun k => k < W.heap.size) v xs ∧ ∀ n, Rows.uptoBulk d ≤ n → bL bOne xs ≤ n := arg_L opens_Is Try.underlying33 hval hr
end Go.Proofs.Ytgbiffpnfpdcoaa
