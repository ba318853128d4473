/- A []Call of the alloc laws that comes in: opened. -/
import Derived.Test.YtbpcgfplokkfpaaOpn
import Derived.Test.YtbpcgfplokkfpaaAlH
namespace Go.Proofs.Ytbpcgfplokkfpaa
open Go.ChangeShapes Go.WideShapes Go.ChangeAt Go.RowKit Go.Deep
set_option linter.unusedVariables false
set_option linter.unusedSimpArgs false
/-- Kind, N, L -/
abbrev Call5 := Int × Int × List (Int × Int)
def rCall5 : Rdr Call5 := rPair rI (rPair rI (rSl rRn))
theorem rCall5_size : rCall5.size = 3 := rfl
theorem RdS.atCall5 {w : World} {S : Nat → Prop} {v : Value} {xs : List Call5} (h : RdS rCall5 w S v xs) (i : Nat) (hi : i < xs.length) :
    ∃ g o cap lv, v = .slice (some ⟨g, o, none⟩) xs.length cap ∧ g < w.heap.size ∧ S g
      ∧ w.cell? ⟨g, o + i * 3, none⟩ = some (.int .i64 xs[i].1) ∧ w.cell? ⟨g, o + i * 3 + 1, none⟩ = some (.int .i64 xs[i].2.1) ∧ w.cell? ⟨g, o + i * 3 + 2, none⟩ = some lv
      ∧ (-9223372036854775808 ≤ xs[i].1 ∧ xs[i].1 ≤ 9223372036854775807) ∧ (-9223372036854775808 ≤ xs[i].2.1 ∧ xs[i].2.1 ≤ 9223372036854775807)
      ∧ RdS rRn w S lv xs[i].2.2 := by
  obtain ⟨g, o, cap, cs, rfl, hg, hS, _, hc, hr⟩ := h.at i hi
  obtain ⟨c1, c2, rfl, ⟨rfl, h1⟩, c3, c4, rfl, ⟨rfl, h2⟩, h3⟩ := hr
  obtain ⟨lv, gs, e4, -⟩ := id h3
  subst e4
  refine ⟨g, o, cap, lv, rfl, hg, hS, ?_, ?_, ?_, h1, h2, h3⟩
  · have := hc 0 _ rfl; simpa [rCall5_size] using this
  · have := hc 1 _ rfl; simpa [rCall5_size, Nat.add_assoc] using this
  · have := hc 2 _ rfl; simpa [rCall5_size, Nat.add_assoc] using this
theorem opens5_I : Opens rI bOne 3 := opens_I Try.underlying3 (by kernel_rfl)
theorem opens5_R : Opens rRn (bSt (bP bOne bOne)) 43 :=
  opens_St Try.underlying43 (by kernel_rfl) (opensFs_cons opens5_I rfl rfl (opensFs_one opens5_I rfl rfl))
theorem opens5_Rs : Opens (rSl rRn) (bL (bSt (bP bOne bOne))) 37 := opens_L opens5_R Try.underlying37 (by kernel_rfl) (by decide)
def bCall5 : Call5 → Nat := bSt (bP bOne (bP bOne (bL (bSt (bP bOne bOne)))))
theorem opens_Call5 : Opens rCall5 bCall5 39 :=
  opens_St Try.underlying39 (by kernel_rfl) (opensFs_cons opens5_I rfl rfl (opensFs_cons opens5_I rfl rfl (opensFs_one opens5_Rs rfl rfl)))
theorem opens_Call5s : Opens (rSl rCall5) (bL bCall5) 32 := opens_L opens_Call5 Try.underlying32 (by kernel_rfl) (by decide)
set_option maxRecDepth 100000 in
theorem arg_Call5s {H : Type} {enc : TypeId × Value → H} {W : World} {base : Nat} {v : Value} {d : DataW H} {ps : List MemPlace} (hval : Value.okWide Try.prog W .any base 32 v) (hr : ∃ fuel, DataW.trod enc Try.prog W 0 (fun _ => true) true fuel 32 v.cells.toList = some (d, ps)) :
    ∃ xs, RdS rCall5 W (fun k => k < W.heap.size) v xs ∧ ∀ n, Rows.uptoBulk d ≤ n → bL bCall5 xs ≤ n := arg_L opens_Call5s Try.underlying32 hval hr
end Go.Proofs.Ytbpcgfplokkfpaa
