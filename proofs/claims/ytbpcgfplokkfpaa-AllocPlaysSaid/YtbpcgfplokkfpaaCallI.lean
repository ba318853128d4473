/- A []Call of the inode laws, as it comes in. -/
import Derived.Test.YtbpcgfplokkfpaaRun
import Derived.Test.YtbpcgfplokkfpaaInts
namespace Go.Proofs.Ytbpcgfplokkfpaa
open Go.RowKit
set_option linter.unusedVariables false
set_option linter.unusedSimpArgs false

/-- Kind, N, L, Two -/
abbrev CallI := Int × Int × List Run × Bool
def rCallI : Rdr CallI := rPair rI (rPair rI (rPair (rSl (rPair rI rI)) rBo))
theorem rCallI_size : rCallI.size = 4 := rfl
theorem RdS.atCallI {w : World} {S : Nat → Prop} {v : Value} {xs : List CallI} (h : RdS rCallI w S v xs) (i : Nat) (hi : i < xs.length) :
    ∃ g o cap lv, v = .slice (some ⟨g, o, none⟩) xs.length cap ∧ g < w.heap.size ∧ S g
      ∧ w.cell? ⟨g, o + i * 4, none⟩ = some (.int .i64 xs[i].1) ∧ w.cell? ⟨g, o + i * 4 + 1, none⟩ = some (.int .i64 xs[i].2.1) ∧ w.cell? ⟨g, o + i * 4 + 2, none⟩ = some lv ∧ w.cell? ⟨g, o + i * 4 + 3, none⟩ = some (.bool xs[i].2.2.2)
      ∧ (-9223372036854775808 ≤ xs[i].1 ∧ xs[i].1 ≤ 9223372036854775807) ∧ (-9223372036854775808 ≤ xs[i].2.1 ∧ xs[i].2.1 ≤ 9223372036854775807)
      ∧ RdR w lv xs[i].2.2.1 ∧ (∀ x ∈ xs[i].2.2.1, RunOk x) ∧ (0 < xs[i].2.2.1.length → ∀ k, lv.ownBlock = some k → S k) := by
  obtain ⟨g, o, cap, cs, rfl, hg, hS, _, hc, hr⟩ := h.at i hi
  obtain ⟨c1, c2, rfl, ⟨rfl, h1⟩, c3, c4, rfl, ⟨rfl, h2⟩, c5, c6, rfl, h3, h4⟩ := hr
  obtain ⟨lv, gs, e4, -⟩ := id h3
  subst e4
  obtain rfl := h4
  obtain ⟨r1, r2, r3⟩ := rdS_runs (show RdS (rPair rI rI) w S lv _ from h3)
  refine ⟨g, o, cap, lv, rfl, hg, hS, ?_, ?_, ?_, ?_, h1, h2, r1, r2, r3⟩
  · have := hc 0 _ rfl; simpa [rCallI_size] using this
  · have := hc 1 _ rfl; simpa [rCallI_size, Nat.add_assoc] using this
  · have := hc 2 _ rfl; simpa [rCallI_size, Nat.add_assoc] using this
  · have := hc 3 _ rfl; simpa [rCallI_size, Nat.add_assoc] using this
end Go.Proofs.Ytbpcgfplokkfpaa
