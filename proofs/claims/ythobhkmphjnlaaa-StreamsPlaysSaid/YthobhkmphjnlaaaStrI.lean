/- Streams in plain Lean: what is reached from an empty Index by adding; what Try says may be added. -/
import Derived.Test.YthobhkmphjnlaaaStrL
namespace Go.Proofs.Ythobhkmphjnlaaa
set_option linter.unusedVariables false
set_option linter.unusedSimpArgs false

inductive Reach : Ix → Prop where
  | zero : Reach ix0
  | add {x : Ix} (b : Bat) : Reach x → (addF x b).2 = 0 → Reach (addF x b).1

theorem addF_ok {x : Ix} {b : Bat} (h : (addF x b).2 = 0) : namedF b.1 b.2.1 = true ∧ x.key b.2.1 = none ∧ rightF b.2.2.2 = true ∧ b.2.2.1 = ((x.str b.1).length : Int) ∧ (addF x b).1 = addEs b.1 (keyed x b.2.1 b.1 b.2.2.1 b.2.2.2.length) b.2.2.1 b.2.2.2 := by
  unfold addF at h ⊢
  by_cases h1 : namedF b.1 b.2.1 = false
  · rw [if_pos h1] at h; simp at h
  · rw [if_neg h1] at h ⊢
    by_cases h2 : (x.key b.2.1).isSome = true
    · rw [if_pos h2] at h; simp at h
    · rw [if_neg h2] at h ⊢
      by_cases h3 : rightF b.2.2.2 = false
      · rw [if_pos h3] at h; simp at h
      · rw [if_neg h3] at h ⊢
        by_cases h4 : b.2.2.1 ≠ ((x.str b.1).length : Int)
        · rw [if_pos h4] at h; simp at h
        · rw [if_neg h4]
          refine ⟨by simpa using h1, by simpa using h2, by simpa using h3, Decidable.not_not.1 h4, rfl⟩
theorem addF_bad {x : Ix} {b : Bat} (h : (addF x b).2 ≠ 0) : (addF x b).1 = x := by
  unfold addF at h ⊢
  split
  · rfl
  · split
    · rfl
    · split
      · rfl
      · split
        · rfl
        · rename_i h1 h2 h3 h4
          rw [if_neg h1, if_neg h2, if_neg h3, if_neg h4] at h
          exact absurd rfl h
theorem tryF_new {x : Ix} {s : ByteArray} {n : Int} {k : ByteArray} {l : List Ev} (h : (tryF x s n k l).2.2 = 0) (hk : x.key k = none) :
    namedF s k = true ∧ rightF l = true ∧ tryF x s n k l = ((((x.str s).length : Int), (x.all.length : Int), (l.length : Int), false), (s, k, ((x.str s).length : Int), l), 0) := by
  unfold tryF at h ⊢
  rw [hk] at h ⊢
  dsimp only at h ⊢
  by_cases h1 : namedF s k = false
  · rw [if_pos h1] at h; simp at h
  · rw [if_neg h1] at h ⊢
    by_cases h2 : rightF l = false
    · rw [if_pos h2] at h; simp at h
    · rw [if_neg h2] at h ⊢
      by_cases h3 : n < -1
      · rw [if_pos h3] at h; simp at h
      · rw [if_neg h3] at h ⊢
        by_cases h4 : 0 ≤ n ∧ n ≠ ((x.str s).length : Int)
        · rw [if_pos h4] at h; simp at h
        · rw [if_neg h4]
          exact ⟨by simpa using h1, by simpa using h2, rfl⟩
theorem tryF_old {x : Ix} {s : ByteArray} {n : Int} {k : ByteArray} {l : List Ev} {z : ByteArray × Apd} (hk : x.key k = some z) : (tryF x s n k l).2.1 = bat0 := by
  unfold tryF
  rw [hk]
  split
  · rfl
  · dsimp only
    split <;> rfl
/-- what Try says may be added -/
theorem try_add {x : Ix} {s : ByteArray} {n : Int} {k : ByteArray} {l : List Ev} (h : (tryF x s n k l).2.2 = 0) (hl : 0 < (tryF x s n k l).2.1.2.2.2.length) : x.key k = none ∧ (addF x (tryF x s n k l).2.1).2 = 0 := by
  cases hk : x.key k with
  | some z => rw [tryF_old hk] at hl; simp [bat0] at hl
  | none =>
    obtain ⟨h1, h2, h3⟩ := tryF_new h hk
    refine ⟨rfl, ?_⟩
    rw [h3]
    unfold addF
    dsimp only
    rw [if_neg (by rw [h1]; simp), if_neg (by rw [hk]; simp), if_neg (by rw [h2]; simp), if_neg (by simp)]
theorem addF_len (x : Ix) (b : Bat) : x.all.length ≤ (addF x b).1.all.length ∧ (addF x b).1.all.length ≤ x.all.length + 16 := by
  by_cases h : (addF x b).2 = 0
  · obtain ⟨h1, h2, h3, h4, h5⟩ := addF_ok h
    have := rightF_len h3
    rw [h5, addEs_all, keyed_all]
    omega
  · rw [addF_bad h]; omega
theorem Reach.str {x : Ix} (h : Reach x) : ∀ s, (x.str s).length ≤ x.all.length := by
  induction h with
  | zero => intro s; simp [ix0]
  | add b h0 h1 ih =>
    rename_i x
    intro s
    obtain ⟨k1, k2, k3, k4, k5⟩ := addF_ok h1
    rw [k5, addEs_all, keyed_all, addEs_str, keyed_str]
    have := ih s
    split <;> omega
theorem Reach.nokey {x : Ix} (h : Reach x) : x.key ⟨#[]⟩ = none := by
  induction h with
  | zero => rfl
  | add b h0 h1 ih =>
    rename_i x
    obtain ⟨k1, k2, k3, k4, k5⟩ := addF_ok h1
    rw [k5, addEs_key]
    unfold keyed
    split
    · exact ih
    · rename_i hne
      dsimp only
      rw [if_neg (fun e => hne e.symm)]
      exact ih
end Go.Proofs.Ythobhkmphjnlaaa
