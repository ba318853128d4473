/- Rows of bytes of the call's own: a cell read, turned; bytes.Equal. -/
import Derived.Test.YtgbiffpnfpdcoaaRdr
namespace Go.Proofs.Ytgbiffpnfpdcoaa
open Go.RowKit
set_option linter.unusedVariables false
set_option linter.unusedSimpArgs false
theorem ownB_set {w : World} {base g n cap : Nat} {l : List UInt8} (h : OwnB w base (.slice (some ⟨g, 0, none⟩) n cap) l) (hn : n = l.length) (j : Nat) (b : UInt8) : OwnB (w.setCell ⟨g, j, none⟩ (bv b)) base (.slice (some ⟨g, 0, none⟩) n cap) (l.set j b) := by
  subst hn
  have := (World.ownsRow.stored h j (bv b)).1
  unfold OwnB
  rw [List.length_set, show bvs (l.set j b) = (bvs l).set j (bv b) from by simp [bvs, List.map_set]]
  exact this
theorem ownB_cell {w : World} {base g n cap : Nat} {l : List UInt8} (h : OwnB w base (.slice (some ⟨g, 0, none⟩) n cap) l) (j : Nat) (hj : j < l.length) : w.cell? ⟨g, j, none⟩ = some (.int .u8 (l[j].toNat : Int)) := by
  obtain ⟨a, c, e, _, _, _, h4⟩ := rdB_own h
  simp only [Value.slice.injEq] at e
  obtain ⟨rfl, rfl, rfl⟩ := e
  obtain ⟨g', o, e, hg, hc⟩ := h4 (by omega)
  cases e
  have := hc j (by omega)
  rw [Nat.zero_add] at this
  rw [this, bvs_get l j hj]
theorem ownB_frozen {w : World} {base g n cap : Nat} {l : List UInt8} (h : OwnB w base (.slice (some ⟨g, 0, none⟩) n cap) l) (hn : n = l.length) (j : Nat) : w.frozen? ⟨g, j, none⟩ = false := by
  subst hn
  exact World.ownsRow.frozenAt h j
theorem ownB_block {w : World} {base : Nat} {v : Value} {l : List UInt8} (h : OwnB w base v l) (hl : 0 < l.length) : ∃ g cap, v = .slice (some ⟨g, 0, none⟩) l.length cap ∧ base ≤ g ∧ g < w.heap.size := by
  rcases h.2 with ⟨e, h0⟩ | ⟨g, cap, cur, e, h3⟩
  · omega
  · exact ⟨g, cap, e, h3.1, (Array.getElem?_eq_some_iff.1 h3.2.1).1⟩
theorem rdB_cell {w : World} {n cap : Nat} {a : Option Addr} {l : List UInt8} (h : RdB w (.slice a n cap) l) (j : Nat) (hj : j < l.length) : ∃ g o, a = some ⟨g, o, none⟩ ∧ n = l.length ∧ g < w.heap.size ∧ w.cell? ⟨g, o + j, none⟩ = some (.int .u8 (l[j].toNat : Int)) := by
  obtain ⟨a, c, e, _, _, _, h4⟩ := h
  simp only [Value.slice.injEq] at e
  obtain ⟨rfl, rfl, rfl⟩ := e
  obtain ⟨g', o, e, hg, hc⟩ := h4 (by omega)
  cases e
  have := hc j (by omega)
  refine ⟨g', o, rfl, rfl, hg, ?_⟩
  rw [this, bvs_get l j hj]
theorem Keep.ownB {S : Nat → Prop} {w w' : World} {base : Nat} {v : Value} {l : List UInt8} (hk : Keep S w w') (h : OwnB w base v l) (hS : ∀ k, v.ownBlock = some k → S k) : OwnB w' base v l := own_kept h fun k hb => hk.block k (hS k hb) (h.lt k hb).2
end Go.Proofs.Ytgbiffpnfpdcoaa
