/- How a []Call of the blockdev laws is read, with what reach says of its sizes. -/
import Derived.Test.YtgbiffpnfpdcoaaOpnWG
import Derived.Test.YtgbiffpnfpdcoaaCall2
namespace Go.Proofs.Ytgbiffpnfpdcoaa
open Go.ChangeShapes Go.WideShapes Go.ChangeAt Go.RowKit Go.Deep
set_option linter.unusedVariables false
set_option linter.unusedSimpArgs false

theorem opensW2_I : OpensW rI (fun _ _ => True) 3 := opensW_I Try.underlying3 (by kernel_rfl)
theorem opensW2_B : OpensW rBo (fun _ _ => True) 4 := opensW_Bo Try.underlying4 (by kernel_rfl)
theorem opensW2_S : OpensW rS (fun _ _ => True) 9 := opensW_S Try.underlying9 (by kernel_rfl)
theorem opensW2_Is : OpensW (rSl rI) (fun M xs => xs.length * 8 ≤ M) 33 := (opensW_L opensW2_I Try.underlying33 (by kernel_rfl) (by decide) 8 (by kernel_rfl)).mono fun _ _ h => h.1
theorem opensW2_C : OpensW rCall2 (fun M x => x.2.2.2.2.2.length * 8 ≤ M) 46 :=
  (opensW_St Try.underlying46 (by kernel_rfl) (opensFsW_cons opensW2_I rfl rfl (opensFsW_cons opensW2_B rfl rfl (opensFsW_cons opensW2_I rfl rfl (opensFsW_cons opensW2_I rfl rfl (opensFsW_cons opensW2_S rfl rfl (opensFsW_one opensW2_Is rfl rfl))))))).mono fun _ _ h => h.2.2.2.2.2
theorem opensW2_Cs : OpensW (rSl rCall2) (fun M xs => ∀ x ∈ xs, x.2.2.2.2.2.length * 8 ≤ M) 41 := (opensW_L opensW2_C Try.underlying41 (by kernel_rfl) (by decide) _ rfl).mono fun _ _ h => h.2
set_option maxRecDepth 100000 in
theorem arg_Call2sW {H : Type} {enc : TypeId × Value → H} {W : World} {base : Nat} {v : Value} {d : DataW H} {ps : List MemPlace} (hval : Value.okWide Try.prog W .any base 41 v) (hr : ∃ fuel, DataW.trod enc Try.prog W 0 (fun _ => true) true fuel 41 v.cells.toList = some (d, ps))
    (hw : (DataW.weights Try.prog 41 d).all (· ≤ reachBytes) = true) :
    ∃ xs, RdS rCall2 W (fun k => k < W.heap.size) v xs ∧ ∀ c ∈ xs, c.2.2.2.2.2.length * 8 ≤ 140737488351232 := by
  obtain ⟨a0, len0, cap0, rfl⟩ := okWide_slice Try.underlying41 hval
  obtain ⟨fuel, hf⟩ := hr
  obtain ⟨xs, h1, h2⟩ := opensW2_Cs.op (cs := [.slice a0 len0 cap0]) hf
  exact ⟨xs, h1, fun c hc => by have := h2 _ hw c hc; unfold reachBytes at this; omega⟩
end Go.Proofs.Ytgbiffpnfpdcoaa
