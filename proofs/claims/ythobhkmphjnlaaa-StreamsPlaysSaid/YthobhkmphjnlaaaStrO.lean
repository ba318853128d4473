/- An element of a row of one's own that is stored anew, six cells. -/
import Derived.Test.YthobhkmphjnlaaaStrN
namespace Go.Proofs.Ythobhkmphjnlaaa
open Go.RowKit
set_option linter.unusedVariables false
set_option linter.unusedSimpArgs false

theorem cells_put6 {α : Type} (gs : List (List Value × α)) (x : α) (u0 u1 u2 u3 u4 u5 : Value) : (∀ p ∈ gs, p.1.length = 6) → ∀ i, i < gs.length →
    cellsOf (gs.set i ([u0, u1, u2, u3, u4, u5], x)) = ((((((cellsOf gs).set (i * 6 + 0) u0).set (i * 6 + 1) u1).set (i * 6 + 2) u2).set (i * 6 + 3) u3).set (i * 6 + 4) u4).set (i * 6 + 5) u5 := by
  induction gs with
  | nil => intro _ i hi; simp at hi
  | cons p gs ih =>
    intro h i hi
    have hp := h p (by simp)
    obtain ⟨c, y⟩ := p
    dsimp only at hp
    obtain ⟨a0, a1, a2, a3, a4, a5, rfl⟩ : ∃ a0 a1 a2 a3 a4 a5, c = [a0, a1, a2, a3, a4, a5] := by
      match c, hp with
      | [a0, a1, a2, a3, a4, a5], _ => exact ⟨_, _, _, _, _, _, rfl⟩
    cases i with
    | zero => rfl
    | succ i =>
      have := ih (fun q hq => h q (by simp [hq])) i (by simpa using hi)
      have e : ∀ (z : List Value × α) (l : List (List Value × α)), cellsOf (z :: l) = z.1 ++ cellsOf l := fun z l => by simp [cellsOf]
      rw [List.set_cons_succ, e, e, this]
      have s : ∀ (l : List Value) (j : Nat) (u : Value), ([a0, a1, a2, a3, a4, a5] ++ l).set ((i + 1) * 6 + j) u = [a0, a1, a2, a3, a4, a5] ++ l.set (i * 6 + j) u := fun l j u => by
        rw [show (i + 1) * 6 + j = i * 6 + j + 1 + 1 + 1 + 1 + 1 + 1 from by omega]; rfl
      dsimp only
      rw [s, s, s, s, s, s]

theorem set_take (l : List Value) (n k : Nat) (u : Value) : (l.set k u).take n = (l.take n).set k u := List.take_set ..

theorem OwnS.put6 {α : Type} {r : Rdr α} {t : TypeId} {w : World} {base : Nat} {S : Nat → Prop} {g n cap : Nat} {xs : List α} (h : OwnS r t w base S (.slice (some ⟨g, 0, none⟩) n cap) xs) (h6 : r.size = 6) (i : Nat) (hi : i < xs.length) (u0 u1 u2 u3 u4 u5 : Value)
    (hc : r.rd w S [u0, u1, u2, u3, u4, u5] xs[i]) :
    OwnS r t ((((((w.setCell ⟨g, i * 6 + 0, none⟩ u0).setCell ⟨g, i * 6 + 1, none⟩ u1).setCell ⟨g, i * 6 + 2, none⟩ u2).setCell ⟨g, i * 6 + 3, none⟩ u3).setCell ⟨g, i * 6 + 4, none⟩ u4).setCell ⟨g, i * 6 + 5, none⟩ u5) base S (.slice (some ⟨g, 0, none⟩) n cap) xs := by
  obtain ⟨gs, rfl, ⟨h1, h2⟩, h3, h4⟩ := h
  have hS : ¬ S g := h3 g rfl
  have hk := ((((((Keep.refl S w).setCell (p := ⟨g, i * 6 + 0, none⟩) hS u0).setCell (p := ⟨g, i * 6 + 1, none⟩) hS u1).setCell (p := ⟨g, i * 6 + 2, none⟩) hS u2).setCell (p := ⟨g, i * 6 + 3, none⟩) hS u3).setCell (p := ⟨g, i * 6 + 4, none⟩) hS u4).setCell (p := ⟨g, i * 6 + 5, none⟩) hS u5
  have hi' : i < gs.length := by simpa using hi
  have hlen : ∀ p ∈ gs, p.1.length = 6 := fun p hp => h6 ▸ r.len (h4 p hp)
  rcases h2 with ⟨h2, h2'⟩ | ⟨g', cap', cur, h2, hb, hg, hn, hm, hcs, hx⟩
  · rw [h2'] at hi'; exact absurd hi' (Nat.not_lt_zero _)
  · simp only [Value.slice.injEq, Option.some.injEq, Addr.mk.injEq] at h2
    obtain ⟨⟨rfl, -⟩, rfl, rfl⟩ := h2
    refine ⟨gs.set i ([u0, u1, u2, u3, u4, u5], gs[i].2), ?_, ⟨?_, .inr ⟨g, cap, _, ?_, hb, set_blk (set_blk (set_blk (set_blk (set_blk (set_blk hg u0) u1) u2) u3) u4) u5, ?_, hm, ?_, ?_⟩⟩, h3, fun p hp => ?_⟩
    · rw [List.map_set, show (([u0, u1, u2, u3, u4, u5], gs[i].2) : List Value × α).2 = (gs.map (·.2))[i]'(by simpa using hi') from by simp, List.set_getElem_self]
    · rw [cells_put6 gs _ u0 u1 u2 u3 u4 u5 hlen i hi']; simpa using h1
    · rw [List.length_set]
    · rw [List.length_set]; exact hn
    · simpa using hcs
    · rw [cells_put6 gs _ u0 u1 u2 u3 u4 u5 hlen i hi', List.length_set]
      simp only [Array.toList_setIfInBounds, set_take]
      rw [hx]
    · rcases List.mem_or_eq_of_mem_set hp with hp | rfl
      · exact Rdr.kept (h4 p hp) hk
      · rw [List.getElem_map] at hc; exact Rdr.kept hc hk
end Go.Proofs.Ythobhkmphjnlaaa
