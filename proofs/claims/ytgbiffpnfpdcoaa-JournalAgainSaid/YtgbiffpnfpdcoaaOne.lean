/- A []One of the journal laws that comes in: opened. -/
import Derived.Test.YtgbiffpnfpdcoaaOpnI
namespace Go.Proofs.Ytgbiffpnfpdcoaa
open Go.ChangeShapes Go.WideShapes Go.ChangeAt Go.RowKit Go.Deep
set_option linter.unusedVariables false
set_option linter.unusedSimpArgs false
/-- N, Fill, Head -/
abbrev One := Int × Int × ByteArray
def rOne : Rdr One := rPair rI (rPair rI rS)
theorem rOne_size : rOne.size = 3 := rfl
theorem RdS.atOne {w : World} {S : Nat → Prop} {v : Value} {xs : List One} (h : RdS rOne w S v xs) (i : Nat) (hi : i < xs.length) :
    ∃ g o cap, v = .slice (some ⟨g, o, none⟩) xs.length cap ∧ g < w.heap.size ∧ S g
      ∧ w.cell? ⟨g, o + i * 3, none⟩ = some (.int .i64 xs[i].1) ∧ w.cell? ⟨g, o + i * 3 + 1, none⟩ = some (.int .i64 xs[i].2.1) ∧ w.cell? ⟨g, o + i * 3 + 2, none⟩ = some (.string xs[i].2.2)
      ∧ (-9223372036854775808 ≤ xs[i].1 ∧ xs[i].1 ≤ 9223372036854775807) ∧ (-9223372036854775808 ≤ xs[i].2.1 ∧ xs[i].2.1 ≤ 9223372036854775807) := by
  obtain ⟨g, o, cap, cs, rfl, hg, hS, _, hc, hr⟩ := h.at i hi
  obtain ⟨c1, c2, rfl, ⟨rfl, h1⟩, c3, c4, rfl, ⟨rfl, h2⟩, ⟨rfl, h3⟩⟩ := hr
  refine ⟨g, o, cap, rfl, hg, hS, ?_, ?_, ?_, h1, h2⟩
  · have := hc 0 _ rfl; simpa [rOne_size] using this
  · have := hc 1 _ rfl; simpa [rOne_size, Nat.add_assoc] using this
  · have := hc 2 _ rfl; simpa [rOne_size, Nat.add_assoc] using this
theorem opens4_I : Opens rI bOne 3 := opens_I Try.underlying3 (by kernel_rfl)
theorem opens4_S : Opens rS bS 9 := opens_S Try.underlying9 (by kernel_rfl)
def bOn1 : One → Nat := bSt (bP bOne (bP bOne bS))
theorem opens_One : Opens rOne bOn1 131 :=
  opens_St Try.underlying131 (by kernel_rfl) (opensFs_cons opens4_I rfl rfl (opensFs_cons opens4_I rfl rfl (opensFs_one opens4_S rfl rfl)))
theorem opens_Ones : Opens (rSl rOne) (bL bOn1) 79 := opens_L opens_One Try.underlying79 (by kernel_rfl) (by decide)
set_option maxRecDepth 100000 in
theorem arg_Ones {H : Type} {enc : TypeId × Value → H} {W : World} {base : Nat} {v : Value} {d : DataW H} {ps : List MemPlace} (hval : Value.okWide Try.prog W .any base 79 v) (hr : ∃ fuel, DataW.trod enc Try.prog W 0 (fun _ => true) true fuel 79 v.cells.toList = some (d, ps)) :
    ∃ xs, RdS rOne W (fun k => k < W.heap.size) v xs ∧ ∀ n, Rows.uptoBulk d ≤ n → bL bOn1 xs ≤ n := arg_L opens_Ones Try.underlying79 hval hr
end Go.Proofs.Ytgbiffpnfpdcoaa
