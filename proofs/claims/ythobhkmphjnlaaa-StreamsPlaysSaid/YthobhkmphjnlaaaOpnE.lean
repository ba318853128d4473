/- Events and batches that come in. -/
import Derived.Test.YthobhkmphjnlaaaOpn
import Derived.Test.YthobhkmphjnlaaaEv
namespace Go.Proofs.Ythobhkmphjnlaaa
open Go.ChangeShapes Go.WideShapes Go.ChangeAt Go.RowKit Go.Deep
set_option linter.unusedVariables false
set_option linter.unusedSimpArgs false

theorem opens_Int : Opens rI bOne 3 := opens_I Try.underlying3 (by kernel_rfl)
theorem opens_Str : Opens rS bS 9 := opens_S Try.underlying9 (by kernel_rfl)
theorem opens_Bool : Opens rBo bOne 4 := opens_Bo Try.underlying4 (by kernel_rfl)
theorem opens_F : Opens rF (bSt (bP bS (bP bOne (bP bOne bS)))) 108 :=
  opens_St Try.underlying108 (by kernel_rfl) (opensFs_cons opens_Str rfl rfl (opensFs_cons opens_Bool rfl rfl (opensFs_cons opens_Int rfl rfl (opensFs_one opens_Str rfl rfl))))
theorem opens_Fs : Opens (rSl rF) (bL (bSt (bP bS (bP bOne (bP bOne bS))))) 44 := opens_L opens_F Try.underlying44 (by kernel_rfl) (by decide)
def bEv : Ev → Nat := bSt (bP bS (bP bOne (bL (bSt (bP bS (bP bOne (bP bOne bS)))))))
theorem opens_E : Opens rE bEv 46 :=
  opens_St Try.underlying46 (by kernel_rfl) (opensFs_cons opens_Str rfl rfl (opensFs_cons opens_Int rfl rfl (opensFs_one opens_Fs rfl rfl)))
theorem opens_Es : Opens (rSl rE) (bL bEv) 23 := opens_L opens_E Try.underlying23 (by kernel_rfl) (by decide)
def bBat : Bat → Nat := bSt (bP bS (bP bS (bP bOne (bL bEv))))
theorem opens_B : Opens rB bBat 31 :=
  opens_St Try.underlying31 (by kernel_rfl) (opensFs_cons opens_Str rfl rfl (opensFs_cons opens_Str rfl rfl (opensFs_cons opens_Int rfl rfl (opensFs_one opens_Es rfl rfl))))

section
variable {H : Type} {enc : TypeId × Value → H} {W : World} {base : Nat} {v : Value} {d : DataW H} {ps : List MemPlace}
set_option maxRecDepth 100000 in
theorem arg_St {α : Type} {r : Rdr α} {b : α → Nat} {t : TypeId} {fs : Array Field} (o : Opens r b t) (h : Try.prog.underlying t = some (.struct fs)) (hval : Value.okWide Try.prog W .any base t v) (hr : ∃ fuel, DataW.trod enc Try.prog W 0 (fun _ => true) true fuel t v.cells.toList = some (d, ps)) :
    ∃ cs x, v = .agg cs.toArray ∧ r.rd W (fun k => k < W.heap.size) cs x ∧ ∀ n, Rows.uptoBulk d ≤ n → b x ≤ n := by
  unfold Value.okWide at hval
  rw [h] at hval
  obtain ⟨cs, rfl, _, _⟩ := hval
  obtain ⟨fuel, hf⟩ := hr
  obtain ⟨x, h1, h2⟩ := o.op (cs := cs.toList) hf
  exact ⟨cs.toList, x, by simp, h1, fun n hn => Nat.le_trans h2 hn⟩
set_option maxRecDepth 100000 in
/-- an event as an argument -/
theorem arg_E (hval : Value.okWide Try.prog W .any base 46 v) (hr : ∃ fuel, DataW.trod enc Try.prog W 0 (fun _ => true) true fuel 46 v.cells.toList = some (d, ps)) :
    ∃ x : Ev, (∃ fv, v = .agg #[.string x.1, .int .i64 x.2.1, fv] ∧ x.1.size ≤ 9223372036854775807 ∧ (-9223372036854775808 ≤ x.2.1 ∧ x.2.1 ≤ 9223372036854775807) ∧ RdS rF W (fun k => k < W.heap.size) fv x.2.2) ∧ ∀ n, Rows.uptoBulk d ≤ n → bEv x ≤ n := by
  obtain ⟨cs, x, rfl, h1, h2⟩ := arg_St opens_E Try.underlying46 hval hr
  obtain ⟨fv, rfl, h3⟩ := rE_cells h1
  exact ⟨x, ⟨fv, rfl, h3⟩, h2⟩
theorem rB_cells {S : Nat → Prop} {cs : List Value} {x : Bat} (h : rB.rd W S cs x) : ∃ ev, cs = [.string x.1, .string x.2.1, .int .i64 x.2.2.1, ev] ∧ x.1.size ≤ 9223372036854775807 ∧ x.2.1.size ≤ 9223372036854775807 ∧ (-9223372036854775808 ≤ x.2.2.1 ∧ x.2.2.1 ≤ 9223372036854775807) ∧ RdS rE W S ev x.2.2.2 := by
  obtain ⟨c1, c2, rfl, ⟨rfl, h1⟩, c3, c4, rfl, ⟨rfl, h2⟩, c5, c6, rfl, ⟨rfl, h3⟩, h4⟩ := h
  obtain ⟨ev, gs, e4, h5⟩ := id h4
  subst e4
  exact ⟨ev, rfl, h1, h2, h3, h4⟩
set_option maxRecDepth 100000 in
theorem arg_Bat (hval : Value.okWide Try.prog W .any base 31 v) (hr : ∃ fuel, DataW.trod enc Try.prog W 0 (fun _ => true) true fuel 31 v.cells.toList = some (d, ps)) :
    ∃ x : Bat, (∃ ev, v = .agg #[.string x.1, .string x.2.1, .int .i64 x.2.2.1, ev] ∧ x.1.size ≤ 9223372036854775807 ∧ x.2.1.size ≤ 9223372036854775807 ∧ (-9223372036854775808 ≤ x.2.2.1 ∧ x.2.2.1 ≤ 9223372036854775807) ∧ RdS rE W (fun k => k < W.heap.size) ev x.2.2.2) ∧ ∀ n, Rows.uptoBulk d ≤ n → bBat x ≤ n := by
  obtain ⟨cs, x, rfl, h1, h2⟩ := arg_St opens_B Try.underlying31 hval hr
  obtain ⟨ev, rfl, h3⟩ := rB_cells h1
  exact ⟨x, ⟨ev, rfl, h3⟩, h2⟩
end
end Go.Proofs.Ythobhkmphjnlaaa
