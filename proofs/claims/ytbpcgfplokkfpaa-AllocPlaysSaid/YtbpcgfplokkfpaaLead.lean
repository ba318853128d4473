/- The reference's way to read a number comes to the same: plain laws, no program. -/
import Derived.Test.YtbpcgfplokkfpaaLaw
namespace Go.Proofs.Ytbpcgfplokkfpaa
set_option linter.unusedVariables false

def lead : Nat → List UInt8 → Nat
  | 0, _ => 0
  | _ + 1, [] => 0
  | f + 1, c :: r => if 128 ≤ c.toNat then lead f r + 1 else 0
def valF : List UInt8 → Nat
  | [] => 0
  | c :: r => valF r * 128 + c.toNat % 128

theorem uintGo_lead (f : Nat) : ∀ (i acc : Nat) (l : List UInt8), uintGo f i acc l =
    if lead f l = f then (0, 0, 11) else if lead f l = l.length then (0, 0, 10)
    else if (0 < i + lead f l ∧ (l.getD (lead f l) 0).toNat = 0) ∨ (i + lead f l = 9 ∧ 1 < (l.getD (lead f l) 0).toNat) then (0, 0, 11)
    else (acc + valF (l.take (lead f l + 1)) * 128 ^ i, i + lead f l + 1, 0) := by
  induction f with
  | zero => intro i acc l; simp [uintGo, lead]
  | succ f ih =>
    intro i acc l
    cases l with
    | nil => simp [uintGo, lead]
    | cons c r =>
      by_cases h : 128 ≤ c.toNat
      · have hle : lead (f + 1) (c :: r) = lead f r + 1 := by simp [lead, h]
        rw [hle, uintGo, if_pos h, ih]
        simp only [List.length_cons, Nat.add_right_cancel_iff, List.getD_cons_succ, List.take_succ_cons, valF]
        have e : i + 1 + lead f r = i + (lead f r + 1) := by omega
        rw [e]
        have e2 : acc + c.toNat % 128 * 128 ^ i + valF (r.take (lead f r + 1)) * 128 ^ (i + 1) = acc + (valF (r.take (lead f r + 1)) * 128 + c.toNat % 128) * 128 ^ i := by
          rw [Nat.pow_succ, Nat.add_mul, Nat.mul_comm (128 ^ i) 128, ← Nat.mul_assoc]; omega
        rw [e2]
      · have hle : lead (f + 1) (c :: r) = 0 := by simp [lead, h]
        rw [hle, uintGo, if_neg h]
        simp [valF]

theorem lead_le (f : Nat) : ∀ l, lead f l ≤ f ∧ lead f l ≤ l.length := by
  induction f with
  | zero => intro l; simp [lead]
  | succ f ih =>
    intro l
    cases l with
    | nil => simp [lead]
    | cons c r =>
      simp only [lead, List.length_cons]
      have := ih r
      split <;> omega
theorem lead_big (f : Nat) : ∀ l j (h : j < l.length), j < lead f l → 128 ≤ l[j].toNat := by
  induction f with
  | zero => intro l j _ h; simp [lead] at h
  | succ f ih =>
    intro l j hl h
    cases l with
    | nil => simp [lead] at h
    | cons c r =>
      simp only [lead] at h
      by_cases hc : 128 ≤ c.toNat
      · rw [if_pos hc] at h
        cases j with
        | zero => exact hc
        | succ j => exact ih r j _ (by omega)
      · rw [if_neg hc] at h; omega
theorem lead_end (f : Nat) : ∀ l (h : lead f l < l.length), lead f l < f → l[lead f l].toNat < 128 := by
  induction f with
  | zero => intro l _ h; simp [lead] at h
  | succ f ih =>
    intro l hl h
    cases l with
    | nil => simp at hl
    | cons c r =>
      by_cases hc : 128 ≤ c.toNat
      · have e : lead (f + 1) (c :: r) = lead f r + 1 := by simp [lead, hc]
        simp only [e] at hl h ⊢
        simp only [List.getElem_cons_succ]
        exact ih r (by simpa using hl) (by omega)
      · have e : lead (f + 1) (c :: r) = 0 := by simp [lead, hc]
        simp only [e]
        simp; omega

theorem valF_append (a b : List UInt8) : valF (a ++ b) = valF a + valF b * 128 ^ a.length := by
  induction a with
  | nil => simp [valF]
  | cons c r ih =>
    simp only [List.cons_append, valF, ih, List.length_cons, Nat.pow_succ]
    rw [Nat.add_mul, Nat.mul_comm (128 ^ r.length) 128, ← Nat.mul_assoc, Nat.mul_assoc, Nat.mul_comm (128 ^ r.length) 128, ← Nat.mul_assoc]; omega
theorem valF_lt (l : List UInt8) : valF l < 128 ^ l.length := by
  induction l with
  | nil => simp [valF]
  | cons c r ih => simp only [valF, List.length_cons, Nat.pow_succ]; omega
theorem valF_snoc (l : List UInt8) (k : Nat) (h : k < l.length) : valF (l.take (k + 1)) = valF (l.take k) + l[k].toNat % 128 * 128 ^ k := by
  rw [List.take_succ_eq_append_getElem h, valF_append]
  simp [valF, Nat.min_eq_left (Nat.le_of_lt h)]

theorem putUk_len_le (k : Nat) : ∀ j n, 0 < j → n < 128 ^ j → (putUk k n).length ≤ j := by
  induction k with
  | zero => intro j n hj _; simp [putUk]; omega
  | succ k ih =>
    intro j n hj h
    by_cases hn : n < 128
    · rw [putUk_small hn]; simp; omega
    · rw [putUk_step hn, List.length_cons]
      obtain ⟨i, rfl⟩ : ∃ i, j = i + 1 := ⟨j - 1, by omega⟩
      have hi : 0 < i := by
        rcases Nat.eq_zero_or_pos i with h0 | h0
        · subst h0; simp at h; omega
        · exact h0
      have := ih i (n / 128) hi (by rw [Nat.pow_succ] at h; omega)
      omega
theorem putUk_len_ge (k : Nat) : ∀ j n, j ≤ k → 128 ^ j ≤ n → j + 1 ≤ (putUk k n).length := by
  induction k with
  | zero => intro j n hj _; obtain rfl : j = 0 := by omega
            simp [putUk]
  | succ k ih =>
    intro j n hj h
    have hl := (putUk_len (k + 1) n).1
    cases j with
    | zero => omega
    | succ i =>
      have h1 : 128 ≤ n := by
        have : 128 ^ 1 ≤ 128 ^ (i + 1) := Nat.pow_le_pow_right (by omega) (by omega)
        omega
      rw [putUk_step (by omega), List.length_cons]
      have := ih i (n / 128) (by omega) (by rw [Nat.pow_succ] at h; omega)
      omega

/-- the last step of the reference -/
theorem uintF_lead (l : List UInt8) (k : Nat) (hk : lead 10 l = k) (h1 : k < 10) (h2 : k < l.length) :
    uintF l = if (0 < k ∧ l[k].toNat = 0) ∨ (k = 9 ∧ 1 < l[k].toNat) then (0, 0, 11) else (valF (l.take (k + 1)), k + 1, 0) := by
  unfold uintF
  rw [uintGo_lead, hk, if_neg (by omega), if_neg (by omega)]
  have e : l.getD k 0 = l[k] := by rw [List.getD_eq_getElem?_getD, List.getElem?_eq_getElem h2, Option.getD_some]
  rw [e]
  simp
theorem uintF_ten (l : List UInt8) (hk : lead 10 l = 10) : uintF l = (0, 0, 11) := by
  unfold uintF; rw [uintGo_lead, hk, if_pos rfl]
theorem uintF_all (l : List UInt8) (hk : lead 10 l = l.length) (h : l.length ≠ 10) : uintF l = (0, 0, 10) := by
  unfold uintF; rw [uintGo_lead, hk, if_neg h, if_pos rfl]

theorem putU_val_zero (l : List UInt8) (k : Nat) (h1 : k < 10) (h2 : k < l.length) (h0 : 0 < k) (hc : l[k].toNat = 0) : (putU (valF (l.take (k + 1)))).length ≠ k + 1 ∧ valF (l.take (k + 1)) < 18446744073709551616 := by
  have hv := valF_snoc l k h2
  have hl := valF_lt (l.take k)
  rw [List.length_take, Nat.min_eq_left (by omega)] at hl
  have := putUk_len_le 9 k (valF (l.take (k + 1))) h0 (by rw [hv, hc]; simpa using hl)
  unfold putU
  have h3 := pow128_le k (by omega)
  rw [hv, hc]
  rw [hv, hc] at this
  simp at this ⊢
  omega
theorem putU_val (l : List UInt8) (k : Nat) (h1 : k < 10) (h2 : k < l.length) (hs : l[k].toNat < 128) (hn : ¬ ((0 < k ∧ l[k].toNat = 0) ∨ (k = 9 ∧ 1 < l[k].toNat))) :
    (putU (valF (l.take (k + 1)))).length = k + 1 ∧ valF (l.take (k + 1)) < 18446744073709551616 := by
  have hv := valF_snoc l k h2
  have hl := valF_lt (l.take k)
  rw [List.length_take, Nat.min_eq_left (by omega)] at hl
  rw [Nat.mod_eq_of_lt hs] at hv
  have hlt := valF_lt (l.take (k + 1))
  rw [List.length_take, Nat.min_eq_left (by omega)] at hlt
  refine ⟨?_, ?_⟩
  · have h3 := putUk_len_le 9 (k + 1) (valF (l.take (k + 1))) (by omega) hlt
    have h4 : k + 1 ≤ (putUk 9 (valF (l.take (k + 1)))).length := by
      rcases Nat.eq_zero_or_pos k with h0 | h0
      · have := (putUk_len 9 (valF (l.take (k + 1)))).1; omega
      · refine putUk_len_ge 9 k _ (by omega) ?_
        have : 1 * 128 ^ k ≤ l[k].toNat * 128 ^ k := Nat.mul_le_mul_right _ (by omega)
        omega
    unfold putU
    omega
  · by_cases h9 : k = 9
    · subst h9
      have h3 : l[9].toNat * 128 ^ 9 ≤ 1 * 128 ^ 9 := Nat.mul_le_mul_right _ (by omega)
      omega
    · have h3 := pow128_le (k + 1) (by omega)
      omega
theorem valF_drop (l : List UInt8) (j : Nat) (h : j < l.length) : valF (l.drop j) = valF (l.drop (j + 1)) * 128 + l[j].toNat % 128 := by
  rw [List.drop_eq_getElem_cons h]; rfl
theorem valF_step (l : List UInt8) (k : Nat) (j : Nat) (hj : j ≤ k) (h : j < l.length) : valF ((l.take (k + 1)).drop j) = valF ((l.take (k + 1)).drop (j + 1)) * 128 + l[j].toNat % 128 := by
  have := valF_drop (l.take (k + 1)) j (by simp; omega)
  simpa using this
end Go.Proofs.Ytbpcgfplokkfpaa
