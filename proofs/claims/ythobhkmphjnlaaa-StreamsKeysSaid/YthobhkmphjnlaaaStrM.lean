/- What a key has come to stays, in plain Lean. -/
import Derived.Test.YthobhkmphjnlaaaStrK
namespace Go.Proofs.Ythobhkmphjnlaaa
set_option linter.unusedVariables false
set_option linter.unusedSimpArgs false

theorem addF_key {x : Ix} {b : Bat} {k : ByteArray} {z : ByteArray × Apd} (h : x.key k = some z) : (addF x b).1.key k = some z := by
  by_cases h0 : (addF x b).2 = 0
  · obtain ⟨h1, h2, h3, h4, h5⟩ := addF_ok h0
    rw [h5, addEs_key]
    unfold keyed
    split
    · exact h
    · dsimp only
      rw [if_neg (fun e => by rw [← e, h] at h2; simp at h2)]
      exact h
  · rw [addF_bad h0]; exact h
theorem keys_first {s k : ByteArray} {l : List Ev} (h : (tryF ix0 s 0 k l).2.2 = 0) (hk : k ≠ ⟨#[]⟩) :
    tryF ix0 s 0 k l = ((0, 0, (l.length : Int), false), (s, k, 0, l), 0) ∧ namedF s k = true ∧ 1 ≤ l.length ∧ l.length ≤ 16 ∧ (addF ix0 (s, k, 0, l)).2 = 0 ∧ Reach (addF ix0 (s, k, 0, l)).1 ∧ (addF ix0 (s, k, 0, l)).1.key k = some (s, 0, 0, (l.length : Int), false) := by
  obtain ⟨a1, a2, a3⟩ := tryF_new h rfl
  have hr := rightF_len a2
  have hadd : (addF ix0 (s, k, 0, l)).2 = 0 := by rw [addF_of (by exact a1) rfl (by exact a2)]; rfl
  obtain ⟨_, _, _, _, c5⟩ := addF_ok hadd
  refine ⟨a3, a1, hr.2.1, hr.2.2, hadd, Reach.add _ .zero hadd, ?_⟩
  rw [c5, addEs_key]
  unfold keyed
  rw [if_neg hk]
  simp [ix0]
theorem tryF_key {x : Ix} {s k : ByteArray} {n : Int} {l : List Ev} {a : Apd} (hn : namedF s k = true) (h : x.key k = some (s, a)) : tryF x s n k l = ((a.1, a.2.1, a.2.2.1, true), bat0, 0) := by
  unfold tryF
  rw [if_neg (by rw [hn]; simp), h]
  simp
end Go.Proofs.Ythobhkmphjnlaaa
