/- Blocks as runs: plain laws, no program. -/
import Derived.WalkKit
namespace Go.Proofs.Ytbpcgfplokkfpaa

abbrev Run := Int × Int
/-- the blocks of some runs -/
def expand (xs : List Run) : List Int := xs.flatMap fun x => (List.range x.2.toNat).map fun j : Nat => x.1 + (j : Int)
/-- a run behind others -/
def putR (l : List Run) (r : Run) : List Run :=
  match l.getLast? with
  | some k => if k.1 + k.2 = r.1 then l.dropLast ++ [(k.1, k.2 + r.2)] else l ++ [r]
  | none => [r]
/-- blocks, one behind the other, as runs -/
def whole (L : List Int) : List Run := L.foldl (fun l b => putR l (b, 1)) []

theorem putR_nil (r : Run) : putR [] r = [r] := rfl
theorem putR_snoc (l : List Run) (k r : Run) : putR (l ++ [k]) r = if k.1 + k.2 = r.1 then l ++ [(k.1, k.2 + r.2)] else l ++ [k] ++ [r] := by
  unfold putR
  rw [List.getLast?_concat, List.dropLast_concat]
theorem snoc_cases {α : Type} (l : List α) : l = [] ∨ ∃ a k, l = a ++ [k] := by
  rcases List.eq_nil_or_concat l with h | ⟨a, k, h⟩
  · exact .inl h
  · exact .inr ⟨a, k, by simpa using h⟩
theorem whole_nil : whole [] = [] := rfl
theorem whole_snoc (L : List Int) (b : Int) : whole (L ++ [b]) = putR (whole L) (b, 1) := by simp [whole]
theorem expand_append (a b : List Run) : expand (a ++ b) = expand a ++ expand b := by simp [expand]
theorem expand_nil : expand [] = [] := rfl
theorem expand_one (f : Int) (n : Nat) : expand [(f, (n : Int))] = (List.range n).map fun j : Nat => f + (j : Int) := by simp [expand]
theorem expand_one_succ (f : Int) (n : Nat) : expand [(f, ((n + 1 : Nat) : Int))] = expand [(f, (n : Int))] ++ [f + n] := by
  rw [expand_one, expand_one, List.range_succ, List.map_append]; rfl
theorem expand_one_len (f n : Int) : (expand [(f, n)]).length = n.toNat := by simp [expand]
theorem expand_cons (r : Run) (l : List Run) : expand (r :: l) = expand [r] ++ expand l := by simp [expand]

theorem putR_putR (l : List Run) (f : Int) (n m : Int) : putR (putR l (f, n)) (f + n, m) = putR l (f, n + m) := by
  rcases snoc_cases l with rfl | ⟨a, k, rfl⟩
  · rw [putR_nil, show [(f, n)] = [] ++ [(f, n)] from rfl, putR_snoc, if_pos rfl, putR_nil]; rfl
  · rw [putR_snoc, putR_snoc]
    by_cases h : k.1 + k.2 = f
    · rw [if_pos h, if_pos h, putR_snoc, if_pos (by dsimp only; omega)]
      simp only [Int.add_assoc]
    · rw [if_neg h, if_neg h, putR_snoc, if_pos rfl]
theorem whole_run (L : List Int) (f : Int) (n : Nat) (hn : 0 < n) : whole (L ++ expand [(f, (n : Int))]) = putR (whole L) (f, (n : Int)) := by
  obtain ⟨m, rfl⟩ : ∃ m, n = m + 1 := ⟨n - 1, by omega⟩
  clear hn
  induction m with
  | zero =>
    have : expand [(f, ((0 + 1 : Nat) : Int))] = [f] := by simp [expand]
    rw [this, whole_snoc]; rfl
  | succ m ih =>
    rw [expand_one_succ, ← List.append_assoc, whole_snoc, ih, putR_putR]; rfl
theorem whole_fold (l : List Run) : ∀ L : List Int, (∀ r ∈ l, 1 ≤ r.2) → l.foldl putR (whole L) = whole (L ++ expand l) := by
  induction l with
  | nil => intro L _; simp [expand]
  | cons r l ih =>
    intro L h
    have hr := h r (by simp)
    obtain ⟨f, n⟩ := r
    dsimp only at hr
    obtain ⟨n, rfl⟩ := Int.eq_ofNat_of_zero_le (show 0 ≤ n by omega)
    rw [List.foldl_cons, ← whole_run L f n (by omega), ih _ (fun r hr => h r (by simp [hr])), expand_cons (f, (n : Int)) l, List.append_assoc]
theorem putR_lens (l : List Run) (r : Run) (h : ∀ x ∈ l, 1 ≤ x.2) (hr : 1 ≤ r.2) : ∀ x ∈ putR l r, 1 ≤ x.2 := by
  intro x hx
  rcases snoc_cases l with rfl | ⟨a, k, rfl⟩
  · rw [putR_nil] at hx
    obtain rfl := List.mem_singleton.1 hx
    exact hr
  · rw [putR_snoc] at hx
    have hk := h k (by simp)
    split at hx
    · rcases List.mem_append.1 hx with hx | hx
      · exact h x (by simp [hx])
      · obtain rfl := List.mem_singleton.1 hx
        dsimp only; omega
    · rcases List.mem_append.1 hx with hx | hx
      · exact h x hx
      · obtain rfl := List.mem_singleton.1 hx
        exact hr
theorem whole_lens (L : List Int) : ∀ x ∈ whole L, 1 ≤ x.2 := by
  have key : ∀ (M : List Int) (l : List Run), (∀ x ∈ l, 1 ≤ x.2) → ∀ x ∈ M.foldl (fun l b => putR l (b, 1)) l, 1 ≤ x.2 := by
    intro M
    induction M with
    | nil => intro l h; exact h
    | cons b M ih => intro l h; exact ih _ (putR_lens l (b, 1) h (Int.le_refl 1))
  exact key L [] (by simp)
theorem expand_putR (l : List Run) (r : Run) (h : ∀ x ∈ l, 1 ≤ x.2) (hr : 0 ≤ r.2) : expand (putR l r) = expand l ++ expand [r] := by
  rcases snoc_cases l with rfl | ⟨a, k, rfl⟩
  · rw [putR_nil]; rfl
  · rw [putR_snoc]
    have hk := h k (by simp)
    obtain ⟨kf, kn⟩ := k
    obtain ⟨f, n⟩ := r
    dsimp only at hk hr ⊢
    obtain ⟨kn, rfl⟩ := Int.eq_ofNat_of_zero_le (show 0 ≤ kn by omega)
    obtain ⟨n, rfl⟩ := Int.eq_ofNat_of_zero_le hr
    split
    · rename_i he
      subst he
      rw [expand_append, expand_append, List.append_assoc]
      congr 1
      rw [show ((kn : Nat) : Int) + (n : Int) = ((kn + n : Nat) : Int) from by omega, expand_one, expand_one, expand_one, List.range_add, List.map_append, List.map_map]
      congr 1
      apply List.map_congr_left
      intro j _
      simp only [Function.comp]
      omega
    · rw [expand_append]
theorem expand_whole (L : List Int) : expand (whole L) = L := by
  have key : ∀ (n : Nat) (M : List Int), M.length = n → expand (whole M) = M := by
    intro n
    induction n with
    | zero => intro M hM; obtain rfl := List.eq_nil_of_length_eq_zero hM; rfl
    | succ n ih =>
      intro M hM
      rcases snoc_cases M with rfl | ⟨a, b, rfl⟩
      · simp at hM
      · rw [whole_snoc, expand_putR _ _ (whole_lens a) (Int.zero_le_ofNat 1), ih a (by simpa using hM)]
        simp [expand]
  exact key _ L rfl
theorem whole_of (l : List Run) (h : ∀ r ∈ l, 1 ≤ r.2) : l.foldl putR [] = whole (expand l) := by
  have := whole_fold l [] h
  simpa [whole_nil] using this
theorem expand_len_ge (l : List Run) (h : ∀ r ∈ l, 1 ≤ r.2) : l.length ≤ (expand l).length := by
  induction l with
  | nil => simp
  | cons r l ih =>
    have hr := h r (by simp)
    have := ih fun x hx => h x (by simp [hx])
    rw [expand_cons, List.length_append, List.length_cons]
    obtain ⟨f, n⟩ := r
    rw [expand_one_len]
    dsimp only at hr
    omega
theorem whole_len (L : List Int) : (whole L).length ≤ L.length := by
  have := expand_len_ge (whole L) (whole_lens L)
  rwa [expand_whole] at this
theorem whole_nil_iff (L : List Int) : whole L = [] ↔ L = [] := by
  constructor
  · intro h
    have := expand_whole L
    rw [h] at this
    exact this.symm
  · rintro rfl; rfl
theorem mem_expand {l : List Run} {b : Int} : b ∈ expand l ↔ ∃ r ∈ l, r.1 ≤ b ∧ b < r.1 + r.2 := by
  simp only [expand, List.mem_flatMap, List.mem_map, List.mem_range]
  constructor
  · rintro ⟨r, hr, j, hj, rfl⟩
    exact ⟨r, hr, by omega, by omega⟩
  · rintro ⟨r, hr, h1, h2⟩
    exact ⟨r, hr, (b - r.1).toNat, by omega, by omega⟩
/-- the runs of blocks below 512 lie below 512 -/
theorem whole_in {L : List Int} {m : Int} (h : ∀ b ∈ L, 0 ≤ b ∧ b < m) : ∀ r ∈ whole L, 0 ≤ r.1 ∧ 1 ≤ r.2 ∧ r.1 + r.2 ≤ m := by
  intro r hr
  have h1 := whole_lens L r hr
  have e := expand_whole L
  have m1 : r.1 ∈ expand (whole L) := mem_expand.2 ⟨r, hr, by omega, by omega⟩
  have m2 : r.1 + r.2 - 1 ∈ expand (whole L) := mem_expand.2 ⟨r, hr, by omega, by omega⟩
  rw [e] at m1 m2
  have := h _ m1
  have := h _ m2
  omega
/-- two lists of runs in their wholes are the same where their blocks are -/
theorem whole_inj {L M : List Int} (h : whole L = whole M) : L = M := by
  have := congrArg expand h
  rwa [expand_whole, expand_whole] at this
end Go.Proofs.Ytbpcgfplokkfpaa
