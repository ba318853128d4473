/- A []Call of the blockdev laws that comes in: opened. -/
import Derived.Test.YtgbiffpnfpdcoaaOpnI
namespace Go.Proofs.Ytgbiffpnfpdcoaa
open Go.ChangeShapes Go.WideShapes Go.ChangeAt Go.RowKit Go.Deep
set_option linter.unusedVariables false
set_option linter.unusedSimpArgs false
/-- Kind, Two, N, Fill, Head, Picks -/
abbrev Call2 := Int × Bool × Int × Int × ByteArray × List Int
def rCall2 : Rdr Call2 := rPair rI (rPair rBo (rPair rI (rPair rI (rPair rS (rSl rI)))))
theorem rCall2_size : rCall2.size = 6 := rfl
theorem RdS.atCall2 {w : World} {S : Nat → Prop} {v : Value} {xs : List Call2} (h : RdS rCall2 w S v xs) (i : Nat) (hi : i < xs.length) :
    ∃ g o cap pv, v = .slice (some ⟨g, o, none⟩) xs.length cap ∧ g < w.heap.size ∧ S g
      ∧ w.cell? ⟨g, o + i * 6, none⟩ = some (.int .i64 xs[i].1) ∧ w.cell? ⟨g, o + i * 6 + 1, none⟩ = some (.bool xs[i].2.1) ∧ w.cell? ⟨g, o + i * 6 + 2, none⟩ = some (.int .i64 xs[i].2.2.1)
      ∧ w.cell? ⟨g, o + i * 6 + 3, none⟩ = some (.int .i64 xs[i].2.2.2.1) ∧ w.cell? ⟨g, o + i * 6 + 4, none⟩ = some (.string xs[i].2.2.2.2.1) ∧ w.cell? ⟨g, o + i * 6 + 5, none⟩ = some pv
      ∧ (-9223372036854775808 ≤ xs[i].1 ∧ xs[i].1 ≤ 9223372036854775807) ∧ (-9223372036854775808 ≤ xs[i].2.2.1 ∧ xs[i].2.2.1 ≤ 9223372036854775807) ∧ (-9223372036854775808 ≤ xs[i].2.2.2.1 ∧ xs[i].2.2.2.1 ≤ 9223372036854775807)
      ∧ xs[i].2.2.2.2.1.size ≤ 9223372036854775807 ∧ RdS rI w S pv xs[i].2.2.2.2.2 := by
  obtain ⟨g, o, cap, cs, rfl, hg, hS, _, hc, hr⟩ := h.at i hi
  obtain ⟨c1, c2, rfl, ⟨rfl, h1⟩, c3, c4, rfl, h0, c5, c6, rfl, ⟨rfl, h2⟩, c7, c8, rfl, ⟨rfl, h3⟩, c9, c10, rfl, ⟨rfl, h4⟩, h5⟩ := hr
  obtain rfl := h0
  obtain ⟨pv, gs, e4, -⟩ := id h5
  subst e4
  refine ⟨g, o, cap, pv, rfl, hg, hS, ?_, ?_, ?_, ?_, ?_, ?_, h1, h2, h3, h4, h5⟩
  · have := hc 0 _ rfl; simpa [rCall2_size] using this
  · have := hc 1 _ rfl; simpa [rCall2_size, Nat.add_assoc] using this
  · have := hc 2 _ rfl; simpa [rCall2_size, Nat.add_assoc] using this
  · have := hc 3 _ rfl; simpa [rCall2_size, Nat.add_assoc] using this
  · have := hc 4 _ rfl; simpa [rCall2_size, Nat.add_assoc] using this
  · have := hc 5 _ rfl; simpa [rCall2_size, Nat.add_assoc] using this
theorem opens2_I : Opens rI bOne 3 := opens_I Try.underlying3 (by kernel_rfl)
theorem opens2_S : Opens rS bS 9 := opens_S Try.underlying9 (by kernel_rfl)
theorem opens2_B : Opens rBo bOne 4 := opens_Bo Try.underlying4 (by kernel_rfl)
def bCall2 : Call2 → Nat := bSt (bP bOne (bP bOne (bP bOne (bP bOne (bP bS (bL bOne))))))
theorem opens_Call2 : Opens rCall2 bCall2 46 :=
  opens_St Try.underlying46 (by kernel_rfl) (opensFs_cons opens2_I rfl rfl (opensFs_cons opens2_B rfl rfl (opensFs_cons opens2_I rfl rfl (opensFs_cons opens2_I rfl rfl (opensFs_cons opens2_S rfl rfl (opensFs_one opens_Is rfl rfl))))))
theorem opens_Call2s : Opens (rSl rCall2) (bL bCall2) 41 := opens_L opens_Call2 Try.underlying41 (by kernel_rfl) (by decide)
set_option maxRecDepth 100000 in
theorem arg_Call2s {H : Type} {enc : TypeId × Value → H} {W : World} {base : Nat} {v : Value} {d : DataW H} {ps : List MemPlace} (hval : Value.okWide Try.prog W .any base 41 v) (hr : ∃ fuel, DataW.trod enc Try.prog W 0 (fun _ => true) true fuel 41 v.cells.toList = some (d, ps)) :
    ∃ xs, RdS rCall2 W (fun k => k < W.heap.size) v xs ∧ ∀ n, Rows.uptoBulk d ≤ n → bL bCall2 xs ≤ n := arg_L opens_Call2s Try.underlying41 hval hr
end Go.Proofs.Ytgbiffpnfpdcoaa
