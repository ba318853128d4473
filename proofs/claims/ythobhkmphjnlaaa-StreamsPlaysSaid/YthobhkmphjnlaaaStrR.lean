/- streams: All at an Index out of blocks of T; what adding the same batch again comes to. -/
import Derived.Test.YthobhkmphjnlaaaStrQ
import Derived.Test.YthobhkmphjnlaaaStrI
namespace Go.Proofs.Ythobhkmphjnlaaa
open Go.RowKit
set_option linter.unusedVariables false
set_option linter.unusedSimpArgs false

theorem All_idx (w : World) (T : Nat → Prop) (g : Nat) (x : Ix) (h : Idx T w g x) (hall : x.all.length ≤ 1000000) (hfl : ∀ e ∈ x.all, e.2.2.2.2.2.length ≤ 1000000) (p q : Nat) (hp : p ≤ 9223372036854775807) (hq : q ≤ 9223372036854775807) :
    Calls Try.prog 25 #[.pointer (some ⟨g, 0, none⟩), .int .i64 p, .int .i64 q] w fun e w' => ∃ v, e = .returned (.tuple #[v, .int .i64 0]) ∧ RdS rEnt w' (fun _ => True) v ((x.all.drop p).take q) ∧ Ext w w' := by
  obtain ⟨ρ, h1, h2⟩ := h
  exact All_any w g ρ _ _ x h1 hall hfl p q hp hq
theorem addEs_strlen (s : ByteArray) : ∀ (l : List Ev) (x : Ix) (n : Int), ((addEs s x n l).str s).length = (x.str s).length + l.length := by
  intro l
  induction l with
  | nil => intro x n; rfl
  | cons e l ih =>
    intro x n
    rw [addEs, ih, show ((addE s x n e).str s) = x.str s ++ [(x.all.length : Int)] from by simp [addE, pushA, pushS], List.length_append]
    simp only [List.length_cons, List.length_nil]
    omega
/-- the same batch a second time -/
theorem addF_again {x : Ix} {b : Bat} (h : (addF x b).2 = 0) : (addF (addF x b).1 b).2 = if b.2.1 = ⟨#[]⟩ then 103 else 101 := by
  obtain ⟨s, k, f, l⟩ := b
  unfold addF at h ⊢
  dsimp only at h ⊢
  by_cases h1 : namedF s k = false
  · rw [if_pos h1] at h; simp at h
  rw [if_neg h1] at h ⊢
  by_cases h2 : (x.key k).isSome = true
  · rw [if_pos h2] at h; simp at h
  rw [if_neg h2] at h ⊢
  by_cases h3 : rightF l = false
  · rw [if_pos h3] at h; simp at h
  rw [if_neg h3] at h ⊢
  by_cases h4 : f ≠ ((x.str s).length : Int)
  · rw [if_pos h4] at h; simp at h
  rw [if_neg h4, if_neg h1, addEs_key, if_neg h3]
  have hl := rightF_len (by simpa using h3)
  by_cases hk : k = ⟨#[]⟩
  · have e : keyed x k s f l.length = x := by unfold keyed; rw [if_pos hk]
    rw [e, if_neg h2, if_pos hk, if_pos]
    rw [addEs_strlen]; omega
  · have e : ((keyed x k s f l.length).key k).isSome = true := by unfold keyed; rw [if_neg hk]; simp
    rw [if_pos e, if_neg hk]
theorem addF_stay {x : Ix} {b : Bat} (h : (addF x b).2 ≠ 0) : (addF x b).1 = x := by
  unfold addF at h ⊢
  split
  · rfl
  · rename_i h1
    rw [if_neg h1] at h
    split
    · rfl
    · rename_i h2
      rw [if_neg h2] at h
      split
      · rfl
      · rename_i h3
        rw [if_neg h3] at h
        split
        · rfl
        · rename_i h4
          rw [if_neg h4] at h
          exact absurd rfl h
theorem addEs_mem (s : ByteArray) : ∀ (l : List Ev) (x : Ix) (n : Int) (e : Ent), e ∈ (addEs s x n l).all → e ∈ x.all ∨ e.2.2.2 ∈ l := by
  intro l
  induction l with
  | nil => intro x n e h; exact .inl h
  | cons a l ih =>
    intro x n e h
    rcases ih _ _ e h with h | h
    · have h' : e ∈ x.all ++ [((x.all.length : Int), s, n, a)] := h
      rcases List.mem_append.1 h' with h | h
      · exact .inl h
      · right; rw [List.mem_singleton.1 h]; simp
    · exact .inr (List.mem_cons_of_mem _ h)
theorem Reach.flds {x : Ix} (h : Reach x) : ∀ e ∈ x.all, e.2.2.2.2.2.length ≤ 16 := by
  induction h with
  | zero => intro e he; simp [ix0] at he
  | @add x b hr h0 ih =>
    intro e he
    obtain ⟨s, k, f, l⟩ := b
    unfold addF at he h0
    split at he
    · exact ih e he
    rename_i h1
    rw [if_neg h1] at h0
    split at he
    · exact ih e he
    rename_i h2
    rw [if_neg h2] at h0
    split at he
    · exact ih e he
    rename_i h3
    split at he
    · exact ih e he
    have hl := rightF_len (by simpa using h3)
    have hk : (keyed x k s f l.length).all = x.all := by unfold keyed; split <;> rfl
    rcases addEs_mem _ _ _ _ e he with h | h
    · exact ih e (by rw [← hk]; exact h)
    · have := hl.1 _ h
      unfold evOk at this
      simp only [Bool.and_eq_true, decide_eq_true_eq] at this
      exact this.1.1.2
end Go.Proofs.Ythobhkmphjnlaaa
