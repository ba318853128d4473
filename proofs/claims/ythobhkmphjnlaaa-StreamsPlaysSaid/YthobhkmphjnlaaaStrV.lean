/- Streams in plain Lean: what lies where in an Index that was filled by adding. -/
import Derived.Test.YthobhkmphjnlaaaStrI
namespace Go.Proofs.Ythobhkmphjnlaaa
set_option linter.unusedVariables false
set_option linter.unusedSimpArgs false

structure Good (x : Ix) : Prop where
  pos : ∀ (i : Nat) (h : i < x.all.length), x.all[i].1 = (i : Int)
  place : ∀ (s : ByteArray) (j : Nat) (h : j < (x.str s).length), ∃ m : Nat, (x.str s)[j] = (m : Int) ∧ ∃ hm : m < x.all.length, x.all[m].2.1 = s ∧ x.all[m].2.2.1 = (j : Int)
  up : ∀ s, (x.str s).Pairwise (· < ·)
  sum : ∀ l : List ByteArray, l.Nodup → (∀ s, x.str s ≠ [] → s ∈ l) → (l.map fun s => (x.str s).length).sum = x.all.length

theorem zero_sum (l : List ByteArray) : (l.map fun _ => 0).sum = 0 := by
  induction l with
  | nil => rfl
  | cons a l ih => rw [List.map_cons, List.sum_cons, ih]
theorem Good.zero : Good ix0 where
  pos i h := by simp [ix0] at h
  place s j h := by simp [ix0] at h
  up s := List.Pairwise.nil
  sum l _ _ := zero_sum l

theorem Good.range {x : Ix} (h : Good x) (s : ByteArray) : ∀ k ∈ x.str s, 0 ≤ k ∧ k < (x.all.length : Int) := by
  intro k hk
  obtain ⟨j, hj, rfl⟩ := List.mem_iff_getElem.1 hk
  obtain ⟨m, e, hm, _⟩ := h.place s j hj
  rw [e]; omega

theorem map_upd (s : ByteArray) (f : ByteArray → Nat) (l : List ByteArray) (h : s ∉ l) : (l.map fun t => if t = s then f t + 1 else f t) = l.map f :=
  List.map_congr_left fun t ht => if_neg fun (e : t = s) => h (e ▸ ht)
theorem sum_upd (s : ByteArray) (f : ByteArray → Nat) : ∀ l : List ByteArray, l.Nodup → s ∈ l → (l.map fun t => if t = s then f t + 1 else f t).sum = (l.map f).sum + 1 := by
  intro l
  induction l with
  | nil => intro _ h; simp at h
  | cons a l ih =>
    intro h hm
    obtain ⟨h1, h2⟩ := List.nodup_cons.1 h
    rw [List.map_cons, List.map_cons, List.sum_cons, List.sum_cons]
    by_cases ha : a = s
    · subst ha
      rw [if_pos rfl, map_upd _ _ _ h1]; omega
    · rw [if_neg ha, ih h2 ((List.mem_cons.1 hm).resolve_left fun e => ha e.symm)]; omega

theorem Good.addE {x : Ix} (h : Good x) (s : ByteArray) (e : Ev) : Good (addE s x ((x.str s).length : Int) e) where
  pos i hi := by
    simp only [Go.Proofs.Ythobhkmphjnlaaa.addE, pushA, pushS, List.length_append, List.length_singleton] at hi ⊢
    by_cases hl : i < x.all.length
    · rw [List.getElem_append_left hl]; exact h.pos i hl
    · rw [List.getElem_append_right (by omega)]
      obtain rfl : i = x.all.length := by omega
      simp
  place t j hj := by
    simp only [Go.Proofs.Ythobhkmphjnlaaa.addE, pushA, pushS] at hj ⊢
    by_cases ht : t = s
    · subst ht
      simp only [if_pos] at hj ⊢
      rw [List.length_append, List.length_singleton] at hj
      by_cases hl : j < (x.str t).length
      · obtain ⟨m, e1, hm, e2, e3⟩ := h.place t j hl
        refine ⟨m, by rw [List.getElem_append_left hl]; exact e1, by rw [List.length_append]; omega, ?_, ?_⟩
        · rw [List.getElem_append_left hm]; exact e2
        · rw [List.getElem_append_left hm]; exact e3
      · obtain rfl : j = (x.str t).length := by omega
        refine ⟨x.all.length, by rw [List.getElem_append_right (Nat.le_refl _)]; simp, by rw [List.length_append]; simp, ?_, ?_⟩
        · rw [List.getElem_append_right (Nat.le_refl _)]; simp
        · rw [List.getElem_append_right (Nat.le_refl _)]; simp
    · simp only [if_neg ht] at hj ⊢
      obtain ⟨m, e1, hm, e2, e3⟩ := h.place t j hj
      refine ⟨m, e1, by rw [List.length_append]; omega, ?_, ?_⟩
      · rw [List.getElem_append_left hm]; exact e2
      · rw [List.getElem_append_left hm]; exact e3
  up t := by
    simp only [Go.Proofs.Ythobhkmphjnlaaa.addE, pushA, pushS]
    by_cases ht : t = s
    · subst ht
      rw [if_pos rfl]
      refine List.pairwise_append.2 ⟨h.up t, List.pairwise_singleton _ _, fun a ha b hb => ?_⟩
      rw [List.mem_singleton.1 hb]
      exact (h.range t a ha).2
    · rw [if_neg ht]; exact h.up t
  sum l hl hm := by
    have h1 := h.sum l hl (fun t ht => hm t (by
      simp only [Go.Proofs.Ythobhkmphjnlaaa.addE, pushA, pushS]
      split
      · simp
      · exact ht))
    have hs : s ∈ l := hm s (by simp [Go.Proofs.Ythobhkmphjnlaaa.addE, pushA, pushS])
    have h2 := sum_upd s (fun t => (x.str t).length) l hl hs
    rw [h1] at h2
    have e1 : (fun t => ((Go.Proofs.Ythobhkmphjnlaaa.addE s x ((x.str s).length : Int) e).str t).length) = fun t => if t = s then (x.str t).length + 1 else (x.str t).length := by
      funext t
      simp only [Go.Proofs.Ythobhkmphjnlaaa.addE, pushA, pushS]
      by_cases ht : t = s
      · rw [if_pos ht, if_pos ht, ht, List.length_append]; rfl
      · rw [if_neg ht, if_neg ht]
    rw [e1, h2]
    simp [Go.Proofs.Ythobhkmphjnlaaa.addE, pushA, pushS]

theorem addE_strlen (x : Ix) (s : ByteArray) (n : Int) (e : Ev) : ((addE s x n e).str s).length = (x.str s).length + 1 := by simp [addE, pushA, pushS]
theorem Good.addEs {s : ByteArray} : ∀ (l : List Ev) {x : Ix} (h : Good x) (n : Int), n = ((x.str s).length : Int) → Good (addEs s x n l) := by
  intro l
  induction l with
  | nil => intro x h n _; exact h
  | cons e l ih =>
    intro x h n hn
    subst hn
    exact ih (h.addE s e) _ (by rw [addE_strlen]; omega)
theorem Good.keyed {x : Ix} (h : Good x) (k s : ByteArray) (f : Int) (c : Nat) : Good (keyed x k s f c) := by
  unfold Go.Proofs.Ythobhkmphjnlaaa.keyed
  split
  · exact h
  · exact ⟨h.pos, h.place, h.up, h.sum⟩
theorem Reach.good {x : Ix} (h : Reach x) : Good x := by
  induction h with
  | zero => exact .zero
  | add b hr h1 ih =>
    obtain ⟨k1, k2, k3, k4, k5⟩ := addF_ok h1
    rw [k5]
    exact Good.addEs _ (ih.keyed _ _ _ _) _ (by rw [keyed_str]; exact k4)

theorem addEs_name (s : ByteArray) : ∀ (l : List Ev) (x : Ix) (n : Int) (t : ByteArray), (addEs s x n l).str t ≠ [] → t = s ∨ x.str t ≠ [] := by
  intro l
  induction l with
  | nil => intro x n t h; exact .inr h
  | cons e l ih =>
    intro x n t h
    rcases ih _ _ t h with h | h
    · exact .inl h
    · by_cases ht : t = s
      · exact .inl ht
      · refine .inr ?_
        simpa [addE, pushA, pushS, ht] using h
theorem Reach.name {x : Ix} (h : Reach x) : ∀ s, x.str s ≠ [] → nameOk s = true := by
  induction h with
  | zero => intro s hs; simp [ix0] at hs
  | add b hr h1 ih =>
    obtain ⟨k1, k2, k3, k4, k5⟩ := addF_ok h1
    intro s hs
    rw [k5] at hs
    rcases addEs_name _ _ _ _ _ hs with rfl | h
    · unfold namedF at k1
      rw [Bool.and_eq_true] at k1
      exact k1.1
    · rw [keyed_str] at h
      exact ih s h
end Go.Proofs.Ythobhkmphjnlaaa
