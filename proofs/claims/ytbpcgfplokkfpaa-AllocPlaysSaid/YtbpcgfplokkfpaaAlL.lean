/- Maps of blocks in plain Lean: free blocks, runs of them. -/
import Derived.WalkKit
namespace Go.Proofs.Ytbpcgfplokkfpaa
set_option linter.unusedVariables false
set_option linter.unusedSimpArgs false

/-- the blocks of some runs -/
def flat (rs : List (Nat × Nat)) : List Nat := rs.flatMap fun r => List.range' r.1 r.2
/-- runs, rising, none empty, none touching the next -/
def Canon (rs : List (Nat × Nat)) : Prop := (∀ r ∈ rs, 1 ≤ r.2) ∧ rs.Pairwise fun r s => r.1 + r.2 < s.1
/-- may block i be taken -/
def freeAt (now last : List Bool) (i : Nat) : Bool := !(now.getD i true) && !(last.getD i true)
def freeBelow (now last : List Bool) (n : Nat) : List Nat := (List.range n).filter (freeAt now last)
def freeIdx (now last : List Bool) : List Nat := freeBelow now last now.length

theorem flat_nil : flat [] = [] := rfl
theorem flat_append (a b : List (Nat × Nat)) : flat (a ++ b) = flat a ++ flat b := by simp [flat]
theorem flat_one (r : Nat × Nat) : flat [r] = List.range' r.1 r.2 := by simp [flat]
theorem flat_len (rs : List (Nat × Nat)) : (flat rs).length = (rs.map (·.2)).sum := by
  induction rs with
  | nil => rfl
  | cons r l ih => rw [show flat (r :: l) = List.range' r.1 r.2 ++ flat l from rfl, List.length_append, ih]; simp

theorem freeBelow_zero (now last : List Bool) : freeBelow now last 0 = [] := rfl
theorem freeBelow_no {now last : List Bool} {n : Nat} (h : freeAt now last n = false) : freeBelow now last (n + 1) = freeBelow now last n := by
  unfold freeBelow; rw [List.range_succ, List.filter_append]; simp [h]
theorem freeBelow_yes {now last : List Bool} {n : Nat} (h : freeAt now last n = true) : freeBelow now last (n + 1) = freeBelow now last n ++ [n] := by
  unfold freeBelow; rw [List.range_succ, List.filter_append]; simp [h]
theorem freeBelow_run {now last : List Bool} {n : Nat} : ∀ k, (∀ j, j < k → freeAt now last (n + j) = true) → freeBelow now last (n + k) = freeBelow now last n ++ List.range' n k := by
  intro k
  induction k with
  | zero => intro _; simp
  | succ k ih =>
    intro h
    rw [← Nat.add_assoc, freeBelow_yes (h k (by omega)), ih fun j hj => h j (by omega), List.range'_concat, List.append_assoc]
    simp
theorem freeAt_len {now last : List Bool} {n : Nat} (h : now.length ≤ n) : freeAt now last n = false := by
  unfold freeAt
  rw [List.getD_eq_getElem?_getD, List.getElem?_eq_none h]; rfl
theorem freeBelow_mem {now last : List Bool} {n i : Nat} : i ∈ freeBelow now last n ↔ i < n ∧ freeAt now last i = true := by
  unfold freeBelow; rw [List.mem_filter, List.mem_range]
theorem freeBelow_prefix {now last : List Bool} {n m : Nat} (h : n ≤ m) : freeBelow now last n <+: freeBelow now last m := by
  obtain ⟨k, rfl⟩ : ∃ k, m = n + k := ⟨m - n, by omega⟩
  induction k with
  | zero => exact List.prefix_refl _
  | succ k ih =>
    refine (ih (by omega)).trans ?_
    rw [← Nat.add_assoc]
    cases hf : freeAt now last (n + k) with
    | false => rw [freeBelow_no hf]; exact List.prefix_refl _
    | true => rw [freeBelow_yes hf]; exact List.prefix_append _ _

/-- what has come of the runs of free blocks when block n is looked at -/
structure Upto (now last : List Bool) (n : Nat) (rs : List (Nat × Nat)) : Prop where
  canon : Canon rs
  flat : flat rs = freeBelow now last n
  gap : ∀ r ∈ rs, r.1 + r.2 < n
theorem Upto.zero (now last : List Bool) : Upto now last 0 [] := ⟨⟨by simp, List.Pairwise.nil⟩, rfl, by simp⟩
theorem Upto.skip {now last : List Bool} {n : Nat} {rs : List (Nat × Nat)} (h : Upto now last n rs) (hf : freeAt now last n = false) : Upto now last (n + 1) rs :=
  ⟨h.canon, h.flat.trans (freeBelow_no hf).symm, fun r hr => by have := h.gap r hr; omega⟩
/-- part of the runs: each lies within the map, and what they hold comes first -/
def RunsOk (now last : List Bool) (rs : List (Nat × Nat)) : Prop := Canon rs ∧ flat rs <+: freeIdx now last ∧ (∀ r ∈ rs, r.1 + r.2 ≤ now.length)
theorem Canon.snoc {rs : List (Nat × Nat)} (h : Canon rs) {n k : Nat} (hk : 1 ≤ k) (hg : ∀ r ∈ rs, r.1 + r.2 < n) : Canon (rs ++ [(n, k)]) := by
  refine ⟨fun r hr => ?_, List.pairwise_append.2 ⟨h.2, List.pairwise_singleton _ _, fun a ha b hb => ?_⟩⟩
  · rcases List.mem_append.1 hr with hr | hr
    · exact h.1 r hr
    · rw [List.mem_singleton.1 hr]; exact hk
  · rw [List.mem_singleton.1 hb]; exact hg a ha
theorem Upto.run {now last : List Bool} {n k : Nat} {rs : List (Nat × Nat)} (h : Upto now last n rs) (hk : 1 ≤ k) (hf : ∀ j, j < k → freeAt now last (n + j) = true) (hn : freeAt now last (n + k) = false) :
    Upto now last (n + k + 1) (rs ++ [(n, k)]) ∧ RunsOk now last (rs ++ [(n, k)]) := by
  have hc := h.canon.snoc hk h.gap
  have hfl : Go.Proofs.Ytbpcgfplokkfpaa.flat (rs ++ [(n, k)]) = freeBelow now last (n + k) := by rw [flat_append, flat_one, h.flat, freeBelow_run k hf]
  have hlen : n + k ≤ now.length := by
    rcases Nat.lt_or_ge (n + (k - 1)) now.length with hl | hl
    · omega
    · have := hf (k - 1) (by omega); rw [freeAt_len hl] at this; cases this
  refine ⟨⟨hc, by rw [hfl, freeBelow_no hn], fun r hr => ?_⟩, hc, ?_, fun r hr => ?_⟩
  · rcases List.mem_append.1 hr with hr | hr
    · have := h.gap r hr; omega
    · rw [List.mem_singleton.1 hr]; show n + k < n + k + 1; omega
  · rw [hfl]; exact freeBelow_prefix hlen
  · rcases List.mem_append.1 hr with hr | hr
    · have := h.gap r hr; omega
    · rw [List.mem_singleton.1 hr]; exact hlen
/-- all runs of free blocks -/
def RunsAll (now last : List Bool) (rs : List (Nat × Nat)) : Prop := Canon rs ∧ flat rs = freeIdx now last ∧ (∀ r ∈ rs, r.1 + r.2 ≤ now.length)
theorem freeBelow_past {now last : List Bool} : ∀ k, freeBelow now last (now.length + k) = freeIdx now last := by
  intro k
  induction k with
  | zero => rfl
  | succ k ih => rw [← Nat.add_assoc, freeBelow_no (freeAt_len (by omega)), ih]
theorem Upto.all {now last : List Bool} {n : Nat} {rs : List (Nat × Nat)} (h : Upto now last n rs) (hn : now.length ≤ n) : RunsAll now last rs := by
  obtain ⟨k, rfl⟩ : ∃ k, n = now.length + k := ⟨n - now.length, by omega⟩
  refine ⟨h.canon, h.flat.trans (freeBelow_past k), fun r hr => ?_⟩
  have h1 := h.canon.1 r hr
  have h2 : r.1 + (r.2 - 1) ∈ freeBelow now last (now.length + k) := by
    rw [← h.flat]
    refine List.mem_flatMap.2 ⟨r, hr, List.mem_range'.2 ⟨r.2 - 1, by omega, by omega⟩⟩
  rw [freeBelow_past] at h2
  have := (freeBelow_mem.1 h2).1
  omega

/-- runs are told by their blocks -/
theorem canon_ext : ∀ {a b : List (Nat × Nat)}, Canon a → Canon b → flat a = flat b → a = b := by
  intro a
  induction a with
  | nil =>
    intro b _ hb h
    cases b with
    | nil => rfl
    | cons r l =>
      have h1 := hb.1 r List.mem_cons_self
      rw [flat_nil, show flat (r :: l) = List.range' r.1 r.2 ++ flat l from rfl] at h
      have := congrArg List.length h
      simp at this; omega
  | cons r l ih =>
    intro b ha hb h
    cases b with
    | nil =>
      have h1 := ha.1 r List.mem_cons_self
      rw [flat_nil, show flat (r :: l) = List.range' r.1 r.2 ++ flat l from rfl] at h
      have := congrArg List.length h
      simp at this; omega
    | cons s m =>
      obtain ⟨a0, k⟩ := r
      obtain ⟨b0, j⟩ := s
      have h1 := ha.1 _ List.mem_cons_self
      have h2 := hb.1 _ List.mem_cons_self
      dsimp only at h1 h2
      have e1 : flat ((a0, k) :: l) = List.range' a0 k ++ flat l := rfl
      have e2 : flat ((b0, j) :: m) = List.range' b0 j ++ flat m := rfl
      rw [e1, e2] at h
      have hla : ∀ x ∈ flat l, a0 + k < x := fun x hx => by
        obtain ⟨r, hr, hx⟩ := List.mem_flatMap.1 hx
        obtain ⟨i, hi, rfl⟩ := List.mem_range'.1 hx
        have := (List.pairwise_cons.1 ha.2).1 r hr
        dsimp only at this
        omega
      have hlb : ∀ x ∈ flat m, b0 + j < x := fun x hx => by
        obtain ⟨r, hr, hx⟩ := List.mem_flatMap.1 hx
        obtain ⟨i, hi, rfl⟩ := List.mem_range'.1 hx
        have := (List.pairwise_cons.1 hb.2).1 r hr
        dsimp only at this
        omega
      have hget : ∀ i : Nat, (List.range' a0 k ++ flat l)[i]? = (List.range' b0 j ++ flat m)[i]? := fun i => by rw [h]
      have h0 := hget 0
      rw [List.getElem?_append_left (by simp; omega), List.getElem?_append_left (by simp; omega), List.getElem?_range' (by omega), List.getElem?_range' (by omega)] at h0
      obtain rfl : a0 = b0 := by simpa using h0
      have hkj : k = j := by
        rcases Nat.lt_trichotomy k j with hlt | he | hlt
        · have hk := hget k
          rw [List.getElem?_append_right (by simp), List.getElem?_append_left (by simp; omega), List.getElem?_range' (by omega)] at hk
          simp only [List.length_range', Nat.sub_self] at hk
          have hm := List.mem_of_getElem? hk
          have := hla _ hm
          omega
        · exact he
        · have hk := hget j
          rw [List.getElem?_append_left (by simp; omega), List.getElem?_append_right (by simp), List.getElem?_range' (by omega)] at hk
          simp only [List.length_range', Nat.sub_self] at hk
          have hm := List.mem_of_getElem? hk.symm
          have := hlb _ hm
          omega
      subst hkj
      have ht : flat l = flat m := List.append_cancel_left h
      rw [ih ⟨fun r hr => ha.1 r (List.mem_cons_of_mem _ hr), (List.pairwise_cons.1 ha.2).2⟩ ⟨fun r hr => hb.1 r (List.mem_cons_of_mem _ hr), (List.pairwise_cons.1 hb.2).2⟩ ht]
end Go.Proofs.Ytbpcgfplokkfpaa
