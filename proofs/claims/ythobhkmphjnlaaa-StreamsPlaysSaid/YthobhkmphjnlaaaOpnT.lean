/- The calls of chapter 10's statements: how they read, and as an argument. -/
import Derived.Test.YthobhkmphjnlaaaOpnE
namespace Go.Proofs.Ythobhkmphjnlaaa
open Go.ChangeShapes Go.WideShapes Go.ChangeAt Go.RowKit Go.Deep
set_option linter.unusedVariables false
set_option linter.unusedSimpArgs false

abbrev Cl := Int × (ByteArray × (ByteArray × (Int × (Int × (List Ev × Bat)))))
def rCl : Rdr Cl := rPair rI (rPair rS (rPair rS (rPair rI (rPair rI (rPair (rSl rE) rB)))))
theorem rCl_size : rCl.size = 10 := rfl
theorem opens_Cl : Opens rCl (bSt (bP bOne (bP bS (bP bS (bP bOne (bP bOne (bP (bL bEv) bBat))))))) 39 :=
  opens_St Try.underlying39 (by kernel_rfl) (opensFs_cons opens_Int rfl rfl (opensFs_cons opens_Str rfl rfl (opensFs_cons opens_Str rfl rfl (opensFs_cons opens_Int rfl rfl (opensFs_cons opens_Int rfl rfl (opensFs_cons opens_Es rfl rfl (opensFs_one opens_B rfl rfl)))))))
theorem opens_Cls : Opens (rSl rCl) (bL (bSt (bP bOne (bP bS (bP bS (bP bOne (bP bOne (bP (bL bEv) bBat)))))))) 22 := opens_L opens_Cl Try.underlying22 (by kernel_rfl) (by decide)
section
variable {H : Type} {enc : TypeId × Value → H} {W : World} {base : Nat} {v : Value} {d : DataW H} {ps : List MemPlace}
set_option maxRecDepth 100000 in
theorem arg_Cls (hval : Value.okWide Try.prog W .any base 22 v) (hr : ∃ fuel, DataW.trod enc Try.prog W 0 (fun _ => true) true fuel 22 v.cells.toList = some (d, ps)) :
    ∃ xs, RdS rCl W (fun k => k < W.heap.size) v xs ∧ True := by
  obtain ⟨xs, h1, _⟩ := arg_L opens_Cls Try.underlying22 hval hr
  exact ⟨xs, h1, trivial⟩
set_option maxRecDepth 100000 in
theorem arg_Es (hval : Value.okWide Try.prog W .any base 23 v) (hr : ∃ fuel, DataW.trod enc Try.prog W 0 (fun _ => true) true fuel 23 v.cells.toList = some (d, ps)) :
    ∃ xs, RdS rE W (fun k => k < W.heap.size) v xs ∧ True := by
  obtain ⟨xs, h1, _⟩ := arg_L opens_Es Try.underlying23 hval hr
  exact ⟨xs, h1, trivial⟩
end
theorem RdS.atCl {w : World} {S : Nat → Prop} {v : Value} {cs : List Cl} (h : RdS rCl w S v cs) (i : Nat) (hi : i < cs.length) :
    ∃ g o cap lv bev, v = .slice (some ⟨g, o, none⟩) cs.length cap ∧ g < w.heap.size ∧ S g ∧ w.cell? ⟨g, o + i * 10, none⟩ = some (.int .i64 cs[i].1) ∧ w.cell? ⟨g, o + i * 10 + 1, none⟩ = some (.string cs[i].2.1) ∧ w.cell? ⟨g, o + i * 10 + 2, none⟩ = some (.string cs[i].2.2.1) ∧
      w.cell? ⟨g, o + i * 10 + 3, none⟩ = some (.int .i64 cs[i].2.2.2.1) ∧ w.cell? ⟨g, o + i * 10 + 4, none⟩ = some (.int .i64 cs[i].2.2.2.2.1) ∧ w.cell? ⟨g, o + i * 10 + 5, none⟩ = some lv ∧
      w.cell? ⟨g, o + i * 10 + 6, none⟩ = some (.string cs[i].2.2.2.2.2.2.1) ∧ w.cell? ⟨g, o + i * 10 + 7, none⟩ = some (.string cs[i].2.2.2.2.2.2.2.1) ∧ w.cell? ⟨g, o + i * 10 + 8, none⟩ = some (.int .i64 cs[i].2.2.2.2.2.2.2.2.1) ∧ w.cell? ⟨g, o + i * 10 + 9, none⟩ = some bev ∧
      (-9223372036854775808 ≤ cs[i].1 ∧ cs[i].1 ≤ 9223372036854775807) ∧ cs[i].2.1.size ≤ 9223372036854775807 ∧ cs[i].2.2.1.size ≤ 9223372036854775807 ∧ (-9223372036854775808 ≤ cs[i].2.2.2.1 ∧ cs[i].2.2.2.1 ≤ 9223372036854775807) ∧ (-9223372036854775808 ≤ cs[i].2.2.2.2.1 ∧ cs[i].2.2.2.2.1 ≤ 9223372036854775807) ∧ RdS rE w S lv cs[i].2.2.2.2.2.1 ∧
      cs[i].2.2.2.2.2.2.1.size ≤ 9223372036854775807 ∧ cs[i].2.2.2.2.2.2.2.1.size ≤ 9223372036854775807 ∧ (-9223372036854775808 ≤ cs[i].2.2.2.2.2.2.2.2.1 ∧ cs[i].2.2.2.2.2.2.2.2.1 ≤ 9223372036854775807) ∧ RdS rE w S bev cs[i].2.2.2.2.2.2.2.2.2 := by
  obtain ⟨g, o, cap, xs, rfl, hg, hS, _, hc, hr⟩ := h.at i hi
  obtain ⟨c0, _, rfl, ⟨rfl, k0⟩, c1, _, rfl, ⟨rfl, k1⟩, c2, _, rfl, ⟨rfl, k2⟩, c3, _, rfl, ⟨rfl, k3⟩, c4, _, rfl, ⟨rfl, k4⟩, c5, c6, rfl, k5, k6⟩ := hr
  obtain ⟨lv, _, e5, _⟩ := id k5
  subst e5
  obtain ⟨bev, rfl, b1, b2, b3, b4⟩ := rB_cells k6
  have hcc : ∀ j u, _ → w.cell? ⟨g, o + i * 10 + j, none⟩ = some u := fun j u hu => by rw [Nat.add_assoc]; exact hc j u hu
  exact ⟨g, o, cap, lv, bev, rfl, hg, hS, hcc 0 _ rfl, hcc 1 _ rfl, hcc 2 _ rfl, hcc 3 _ rfl, hcc 4 _ rfl, hcc 5 _ rfl, hcc 6 _ rfl, hcc 7 _ rfl, hcc 8 _ rfl, hcc 9 _ rfl, k0, k1, k2, k3, k4, k5, b1, b2, b3, b4⟩
end Go.Proofs.Ythobhkmphjnlaaa
