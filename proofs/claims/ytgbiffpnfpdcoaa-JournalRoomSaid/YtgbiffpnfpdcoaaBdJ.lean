/- blockdev: the plain laws of a crash. -/
import Derived.Test.YtgbiffpnfpdcoaaBdI
namespace Go.Proofs.Ytgbiffpnfpdcoaa
open Go.RowKit
set_option linter.unusedVariables false
set_option linter.unusedSimpArgs false

theorem pendN_inj {d : Dv} {i j : Nat} (hi : i < (pendN d).length) (hj : j < (pendN d).length) (h : (pendN d)[i] = (pendN d)[j]) : i = j := by
  rcases Nat.lt_trichotomy i j with e | e | e
  · have := List.pairwise_iff_getElem.1 (pendN_lt d) i j hi hj e; omega
  · exact e
  · have := List.pairwise_iff_getElem.1 (pendN_lt d) j i hj hi e; omega
theorem crashTo_at (d : Dv) (picks : List Int) : ∀ (i k : Nat), i ≤ (pendN d).length → (crashTo d picks i).getD k zb = (d.safe.getD k zb) ∧ (∀ j, (hj : j < (pendN d).length) → j < i → (pendN d)[j] ≠ k) ∨ ∃ j, ∃ hj : j < (pendN d).length, j < i ∧ (pendN d)[j] = k ∧ (crashTo d picks i).getD k zb = keepF (d.pend k) (d.safe.getD k zb) (picks.getD j 0) := by
  intro i
  induction i with
  | zero => intro k _; left; exact ⟨rfl, fun j _ h => absurd h (Nat.not_lt_zero _)⟩
  | succ i ih =>
    intro k hi
    have hi' : i < (pendN d).length := hi
    obtain ⟨n, hn⟩ : ∃ n, (pendN d)[i] = n := ⟨_, rfl⟩
    have e1 : (pendN d).getD i 0 = n := by rw [List.getD_eq_getElem?_getD, List.getElem?_eq_getElem hi', hn]; rfl
    have hnl : n < d.safe.length := (pendN_mem.1 (hn ▸ List.getElem_mem hi')).1
    rw [crashTo, e1]
    by_cases hk : k = n
    · subst hk
      right
      refine ⟨i, hi', Nat.lt_succ_self _, hn, ?_⟩
      rw [List.getD_eq_getElem?_getD, List.getElem?_set_self (by rw [crashTo_len]; exact hnl), Option.getD_some]
      rcases ih k (by omega) with ⟨e, _⟩ | ⟨j, hj, hlt, he, _⟩
      · rw [e]
      · exact absurd (pendN_inj hj hi' (he.trans hn.symm)) (by omega)
    · have e2 : ∀ b, ((crashTo d picks i).set n b).getD k zb = (crashTo d picks i).getD k zb := fun b => by
        rw [List.getD_eq_getElem?_getD, List.getElem?_set_ne (fun e => hk e.symm), ← List.getD_eq_getElem?_getD]
      rw [e2]
      rcases ih k (by omega) with ⟨e, h⟩ | ⟨j, hj, hlt, he, h⟩
      · left
        refine ⟨e, fun j hj hlt => ?_⟩
        by_cases hji : j = i
        · subst hji; intro e'; exact hk (e'.symm.trans hn)
        · exact h j hj (by omega)
      · right; exact ⟨j, hj, by omega, he, h⟩
theorem crash_cur (d : Dv) (picks : List Int) (k : Nat) : curF (crashF d picks) (k : Int) = (crashTo d picks (pendN d).length).getD k zb := by
  unfold curF crashF
  simp
/-- a block that has nothing pending stays -/
theorem crash_none (d : Dv) (picks : List Int) (k : Nat) (h : d.pend (k : Int) = []) : curF (crashF d picks) (k : Int) = d.safe.getD k zb := by
  rw [crash_cur]
  rcases crashTo_at d picks _ k (Nat.le_refl _) with ⟨e, _⟩ | ⟨j, hj, _, he, _⟩
  · exact e
  · exact absurd h (pendN_mem.1 (he ▸ List.getElem_mem hj)).2
theorem crash_at (d : Dv) (picks : List Int) (j : Nat) (hj : j < (pendN d).length) : curF (crashF d picks) (((pendN d)[j] : Nat) : Int) = keepF (d.pend ((pendN d)[j] : Nat)) (d.safe.getD (pendN d)[j] zb) (picks.getD j 0) := by
  rw [crash_cur]
  rcases crashTo_at d picks _ (pendN d)[j] (Nat.le_refl _) with ⟨_, h⟩ | ⟨i, hi, _, he, h⟩
  · exact absurd rfl (h j hj hj)
  · rw [h, pendN_inj hi hj he]
theorem keepF_mem (l : List Bk) (s : Bk) (p : Int) : keepF l s p = s ∨ keepF l s p ∈ l := by
  unfold keepF
  have := pickF_lt p (l.length + 1) (by omega)
  split
  · exact .inl rfl
  · right
    rw [List.getD_eq_getElem?_getD, List.getElem?_eq_getElem (by omega)]
    exact List.getElem_mem _
/-- each block keeps what it was at the last flush, or one of the writes behind that -/
theorem crash_mem (d : Dv) (picks : List Int) (k : Nat) : curF (crashF d picks) (k : Int) = d.safe.getD k zb ∨ curF (crashF d picks) (k : Int) ∈ d.pend (k : Int) := by
  rw [crash_cur]
  rcases crashTo_at d picks _ k (Nat.le_refl _) with ⟨e, _⟩ | ⟨j, hj, _, he, h⟩
  · exact .inl e
  · rw [h]; exact keepF_mem _ _ _
theorem crash_len (d : Dv) (picks : List Int) : (crashF d picks).safe.length = d.safe.length := crashTo_len _ _ _
end Go.Proofs.Ytgbiffpnfpdcoaa
