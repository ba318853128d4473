/- A file's map of blocks: plain laws, no program. -/
import Derived.Test.YtbpcgfplokkfpaaRunL
import Derived.Test.YtbpcgfplokkfpaaSpec
namespace Go.Proofs.Ytbpcgfplokkfpaa

/-- how many blocks so many bytes need -/
def nb (n : Int) : Int := (n + 511) / 512
/-- P6.2 -/
def needF (s n : Int) : Int × Int := if n < 0 then (0, 1) else if 32768 - s < n then (0, 60) else (nb (s + n) - nb s, 0)
def badRun (r : Run) (need : Int) : Bool := decide (r.1 < 0 ∨ 512 ≤ r.1 ∨ r.2 < 1 ∨ 512 - r.1 < r.2 ∨ need < r.2)
/-- the runs are of just so many blocks -/
def extOk : List Run → Int → Bool
  | [], need => decide (need = 0)
  | r :: l, need => !badRun r need && extOk l (need - r.2)
def extF (s n : Int) (l : List Run) : Int := if (needF s n).2 ≠ 0 then (needF s n).2 else if extOk l (needF s n).1 then 0 else 1

structure NodeOk (s : Int) (L : List Int) : Prop where
  lo : 0 ≤ s
  hi : s ≤ 32768
  len : (L.length : Int) = nb s
  blk : ∀ b ∈ L, 0 ≤ b ∧ b < 512

theorem NodeOk.empty : NodeOk 0 [] := ⟨by omega, by omega, rfl, by simp⟩
theorem nb_mono {a b : Int} (h : a ≤ b) : nb a ≤ nb b := by unfold nb; omega
theorem nb_lo {a : Int} (h : 0 ≤ a) : 0 ≤ nb a := by unfold nb; omega
theorem nb_hi {a : Int} (h : a ≤ 32768) : nb a ≤ 64 := by unfold nb; omega
theorem NodeOk.len64 {s : Int} {L : List Int} (h : NodeOk s L) : L.length ≤ 64 := by have := nb_hi h.hi; have := h.len; omega

theorem extOk_lens : ∀ (l : List Run) (need : Int), extOk l need = true → (∀ r ∈ l, 0 ≤ r.1 ∧ 1 ≤ r.2 ∧ r.1 + r.2 ≤ 512) ∧ ((expand l).length : Int) = need := by
  intro l
  induction l with
  | nil => intro need h; simp [extOk] at h; simp [expand, h]
  | cons r l ih =>
    intro need h
    simp only [extOk, badRun, Bool.and_eq_true, Bool.not_eq_true', decide_eq_false_iff_not] at h
    obtain ⟨h1, h2⟩ := h
    obtain ⟨i1, i2⟩ := ih _ h2
    refine ⟨fun x hx => ?_, ?_⟩
    · rcases List.mem_cons.1 hx with rfl | hx
      · omega
      · exact i1 x hx
    · obtain ⟨f, n⟩ := r
      rw [expand_cons, List.length_append, expand_one_len]
      dsimp only at h1 i2
      omega
theorem ext_ok {s n : Int} {L : List Int} {l : List Run} (h : NodeOk s L) (he : extF s n l = 0) : NodeOk (s + n) (L ++ expand l) ∧ 0 ≤ n ∧ n ≤ 32768 - s ∧ extOk l (nb (s + n) - nb s) = true := by
  unfold extF needF at he
  by_cases h1 : n < 0
  · rw [if_pos h1] at he; simp at he
  rw [if_neg h1] at he
  by_cases h2 : 32768 - s < n
  · rw [if_pos h2] at he; simp at he
  rw [if_neg h2] at he
  simp only [ne_eq, not_true_eq_false, if_false] at he
  by_cases h3 : extOk l (nb (s + n) - nb s) = true
  · obtain ⟨e1, e2⟩ := extOk_lens l _ h3
    have hl := h.len
    have h0 := h.lo
    refine ⟨⟨by omega, by omega, by rw [List.length_append]; omega, fun b hb => ?_⟩, by omega, by omega, h3⟩
    rcases List.mem_append.1 hb with hb | hb
    · exact h.blk b hb
    · obtain ⟨r, hr, h4, h5⟩ := mem_expand.1 hb
      have := e1 r hr
      omega
  · rw [if_neg h3] at he; simp at he
/-- what is kept, and what is given back -/
theorem cut_ok {s n : Int} {L : List Int} (h : NodeOk s L) (h0 : 0 ≤ n) (h1 : n ≤ s) : NodeOk n (L.take (nb n).toNat) := by
  have hm := nb_mono h1
  have hl := h.len
  have hlo := nb_lo h0
  have hhi := h.hi
  exact ⟨h0, by omega, by rw [List.length_take]; omega, fun b hb => h.blk b (List.mem_of_mem_take hb)⟩

/-! ### which block a place speaks of -/
theorem expand_get (l : List Run) : ∀ (k : Int), 0 ≤ k → (∀ r ∈ l, 1 ≤ r.2) → ∀ (r : Run) (l' : List Run), l = r :: l' →
    (k < r.2 → (expand l)[k.toNat]? = some (r.1 + k)) ∧ (r.2 ≤ k → (expand l)[k.toNat]? = (expand l')[(k - r.2).toNat]?) := by
  intro k hk h r l' e
  subst e
  have hr := h r (by simp)
  obtain ⟨f, n⟩ := r
  dsimp only at hr ⊢
  rw [expand_cons]
  refine ⟨fun hlt => ?_, fun hge => ?_⟩
  · rw [List.getElem?_append_left (by rw [expand_one_len]; omega)]
    simp only [expand, List.flatMap_cons, List.flatMap_nil, List.append_nil, List.getElem?_map]
    rw [List.getElem?_range (by omega)]
    simp; omega
  · rw [List.getElem?_append_right (by rw [expand_one_len]; omega), expand_one_len]
    congr 1
    omega

theorem expand_split (f : Int) (k n : Nat) (h : k ≤ n) : expand [(f, (n : Int))] = expand [(f, (k : Int))] ++ expand [(f + k, ((n - k : Nat) : Int))] := by
  obtain ⟨m, rfl⟩ : ∃ m, n = k + m := ⟨n - k, by omega⟩
  rw [expand_one, expand_one, expand_one, List.range_add, List.map_append, List.map_map, Nat.add_sub_cancel_left]
  congr 1
  apply List.map_congr_left
  intro j _
  simp only [Function.comp]
  omega
theorem expand_take (f : Int) (k n : Nat) (h : k ≤ n) : (expand [(f, (n : Int))]).take k = expand [(f, (k : Int))] ∧ (expand [(f, (n : Int))]).drop k = expand [(f + k, ((n - k : Nat) : Int))] := by
  have hl : (expand [(f, (k : Int))]).length = k := by rw [expand_one_len]; simp
  rw [expand_split f k n h]
  constructor
  · rw [List.take_append_of_le_length (by omega), List.take_of_length_le (by omega)]
  · rw [List.drop_append_of_le_length (by omega), List.drop_of_length_le (by omega), List.nil_append]
/-- one run more, cut at K -/
theorem cut_step (A : List Int) (f : Int) (n K ke k : Nat) (hn : 1 ≤ n) (hke : ke = K - A.length) (hk : k = min ke n) :
    whole ((A ++ expand [(f, (n : Int))]).take K) = (if 0 < k then putR (whole (A.take K)) (f, (k : Int)) else whole (A.take K)) ∧
    whole ((A ++ expand [(f, (n : Int))]).drop K) = (if k < n then putR (whole (A.drop K)) (f + k, ((n - k : Nat) : Int)) else whole (A.drop K)) ∧
    K - (A ++ expand [(f, (n : Int))]).length = ke - k := by
  have hel : (expand [(f, (n : Int))]).length = n := by rw [expand_one_len]; simp
  have e1 : (expand [(f, (n : Int))]).take (K - A.length) = expand [(f, (k : Int))] := by
    rw [← hke]
    by_cases h : ke ≤ n
    · obtain rfl : k = ke := by omega
      exact (expand_take f k n h).1
    · obtain rfl : k = n := by omega
      rw [List.take_of_length_le (by omega)]
  have e2 : (expand [(f, (n : Int))]).drop (K - A.length) = expand [(f + k, ((n - k : Nat) : Int))] := by
    rw [← hke]
    by_cases h : ke ≤ n
    · obtain rfl : k = ke := by omega
      exact (expand_take f k n h).2
    · obtain rfl : k = n := by omega
      rw [List.drop_of_length_le (by omega), Nat.sub_self]
      simp [expand]
  refine ⟨?_, ?_, by rw [List.length_append, hel]; omega⟩
  · rw [List.take_append, e1]
    by_cases h : 0 < k
    · rw [if_pos h, whole_run _ _ _ h]
    · rw [if_neg h, show k = 0 from by omega]
      simp [expand]
  · rw [List.drop_append, e2]
    by_cases h : k < n
    · rw [if_pos h, whole_run _ _ _ (by omega)]
    · rw [if_neg h, show n - k = 0 from by omega]
      simp [expand]
theorem expand_prefix (X : List Run) (i : Nat) : (expand (X.take i)).length ≤ (expand X).length := by
  have := expand_append (X.take i) (X.drop i)
  rw [List.take_append_drop] at this
  rw [this, List.length_append]; omega
theorem expand_in {X : List Run} (h : ∀ r ∈ X, 0 ≤ r.1 ∧ 1 ≤ r.2 ∧ r.1 + r.2 ≤ 512) (i : Nat) : ∀ b ∈ expand (X.take i), 0 ≤ b ∧ b < 512 := by
  intro b hb
  obtain ⟨r, hr, h4, h5⟩ := mem_expand.1 hb
  have := h r (List.mem_of_mem_take hr)
  omega
/-- runs that put takes -/
def RunsLow (xs : List Run) : Prop := ∀ x ∈ xs, (-1000000 ≤ x.1 ∧ x.1 ≤ 1000000) ∧ -1000000 ≤ x.2 ∧ x.2 ≤ 1000000
theorem whole_low {A : List Int} (h : ∀ b ∈ A, 0 ≤ b ∧ b < 512) : RunsLow (whole A) := by
  intro x hx
  have := whole_in h x hx
  omega
end Go.Proofs.Ytbpcgfplokkfpaa
