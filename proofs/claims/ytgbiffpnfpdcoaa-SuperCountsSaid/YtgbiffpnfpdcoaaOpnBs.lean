/- A [][]byte that comes in; a []int. -/
import Derived.Test.YtgbiffpnfpdcoaaOpnI
namespace Go.Proofs.Ytgbiffpnfpdcoaa
open Go.ChangeShapes Go.WideShapes Go.ChangeAt Go.RowKit Go.Deep
theorem opens_Bss : Opens (rSl rBs) (bL bBs) 68 := opens_L opens_Bs Try.underlying68 (by kernel_rfl) (by decide)
set_option maxRecDepth 100000 in
theorem arg_Bss {H : Type} {enc : TypeId × Value → H} {W : World} {base : Nat} {v : Value} {d : DataW H} {ps : List MemPlace} (hval : Value.okWide Try.prog W .any base 68 v) (hr : ∃ fuel, DataW.trod enc Try.prog W 0 (fun _ => true) true fuel 68 v.cells.toList = some (d, ps)) :
    ∃ xs, RdS rBs W (fun k => k < W.heap.size) v xs ∧ ∀ n, Rows.uptoBulk d ≤ n → bL bBs xs ≤ n := arg_L opens_Bss Try.underlying68 hval hr
end Go.Proofs.Ytgbiffpnfpdcoaa
