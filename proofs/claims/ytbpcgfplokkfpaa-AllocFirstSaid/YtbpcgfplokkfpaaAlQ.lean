/- Just the least free blocks are taken: plain law. -/
import Derived.Test.YtbpcgfplokkfpaaAlP
namespace Go.Proofs.Ytbpcgfplokkfpaa
set_option linter.unusedVariables false
set_option linter.unusedSimpArgs false

/-- the last block of some runs -/
def lastI (rs : List (Nat × Nat)) : Int := match rs.getLast? with
  | none => -1
  | some r => (r.1 : Int) + (r.2 : Int) - 1
theorem lastI_nil : lastI [] = -1 := rfl
theorem lastI_snoc (l : List (Nat × Nat)) (r : Nat × Nat) : lastI (l ++ [r]) = (r.1 : Int) + (r.2 : Int) - 1 := by
  unfold lastI; rw [List.getLast?_concat]
theorem lastI_take_succ {rs : List (Nat × Nat)} {k a c : Nat} (h : rs[k]? = some (a, c)) : lastI (rs.take (k + 1)) = (a : Int) + (c : Int) - 1 := by
  have hlt : k < rs.length := (List.getElem?_eq_some_iff.1 h).1
  have hge : rs[k] = (a, c) := (List.getElem?_eq_some_iff.1 h).2
  rw [List.take_succ_eq_append_getElem hlt, hge, lastI_snoc]
theorem lastI_lt {rs : List (Nat × Nat)} (hc : Canon rs) {k a c : Nat} (h : rs[k]? = some (a, c)) : lastI (rs.take k) < (a : Int) := by
  rcases snoc_cases (rs.take k) with h0 | ⟨l, r, h0⟩
  · rw [h0, lastI_nil]; omega
  · have hsplit : rs = l ++ [r] ++ rs.drop k := by rw [← h0, List.take_append_drop]
    have hmem : (a, c) ∈ rs.drop k := by
      refine List.mem_of_getElem? (i := 0) ?_
      rw [List.getElem?_drop]; exact h
    have h2 := hc.2
    rw [hsplit] at h2
    have := (List.pairwise_append.1 h2).2.2 r (by simp) (a, c) hmem
    rw [h0, lastI_snoc]
    dsimp only at this
    omega
theorem lastI_lo (rs : List (Nat × Nat)) (hc : Canon rs) : -1 ≤ lastI rs := by
  rcases snoc_cases rs with rfl | ⟨l, r, rfl⟩
  · exact Int.le_refl _
  · rw [lastI_snoc]; have := hc.1 r (by simp); omega
theorem freeIdx_sorted (now last : List Bool) : (freeIdx now last).Pairwise (· < ·) := by
  unfold freeIdx freeBelow
  exact List.pairwise_lt_range.filter _
/-- what is free behind a Take lies behind all that was taken -/
theorem free_behind {now last : List Bool} {n : Nat} {rs : List (Nat × Nat)} (hc : Canon rs) (hf : flat rs = (freeIdx now last).take n) {pre : List (Nat × Nat)} {x : Nat × Nat}
    (hok : RunsOk (setAll now ((freeIdx now last).take n)) last (pre ++ [x])) : ¬ (x.1 : Int) < lastI rs := by
  have hx1 := hok.1.1 x (by simp)
  have hmem : x.1 ∈ (freeIdx now last).drop n := by
    rw [← free_take]
    refine hok.2.1.subset ?_
    rw [flat_append, flat_one]
    exact List.mem_append_right _ (List.mem_range'.2 ⟨0, by omega, by omega⟩)
  rcases snoc_cases rs with rfl | ⟨l, r, rfl⟩
  · rw [lastI_nil]; omega
  · have hr := hc.1 r (by simp)
    have hm2 : r.1 + (r.2 - 1) ∈ (freeIdx now last).take n := by
      rw [← hf, flat_append, flat_one]
      exact List.mem_append_right _ (List.mem_range'.2 ⟨r.2 - 1, by omega, by omega⟩)
    have hs := freeIdx_sorted now last
    rw [← List.take_append_drop n (freeIdx now last)] at hs
    have := (List.pairwise_append.1 hs).2.2 _ hm2 _ hmem
    rw [lastI_snoc]
    omega
end Go.Proofs.Ytbpcgfplokkfpaa
