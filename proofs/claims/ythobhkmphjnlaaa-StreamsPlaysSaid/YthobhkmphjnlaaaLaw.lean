/- What is laid is read again; what is read was laid so. Plain laws, no program. -/
import Derived.Test.YthobhkmphjnlaaaSpec
namespace Go.Proofs.Ythobhkmphjnlaaa

theorem uintGo_put (f : Nat) : ∀ (i acc m : Nat) (r : List UInt8), f + i = 10 → m < 2 * 128 ^ (f - 1) → (0 < i → 0 < m) → 0 < f →
    uintGo f i acc (putUk (f - 1) m ++ r) = (acc + m * 128 ^ i, i + (putUk (f - 1) m).length, 0) := by
  induction f with
  | zero => intro i acc m r _ _ _ h; omega
  | succ f ih =>
    intro i acc m r hi hm hp _
    simp only [Nat.add_sub_cancel] at hm ⊢
    by_cases h : m < 128
    · rw [putUk_small h]
      have hn : (UInt8.ofNat m).toNat = m := by rw [UInt8.toNat_ofNat', Nat.mod_eq_of_lt (by omega)]
      simp only [List.cons_append, List.nil_append, uintGo, hn]
      rw [if_neg (by omega), if_neg]
      · simp [Nat.mod_eq_of_lt h]
      · rintro (⟨h1, h2⟩ | ⟨h1, h2⟩)
        · have := hp h1; omega
        · have : f = 0 := by omega
          subst this
          simp at hm
          omega
    · cases f with
      | zero => simp at hm; omega
      | succ f =>
        rw [putUk_step h]
        have hn : (UInt8.ofNat (m % 128 + 128)).toNat = m % 128 + 128 := by rw [UInt8.toNat_ofNat', Nat.mod_eq_of_lt (by omega)]
        simp only [List.cons_append]
        rw [uintGo, hn, if_pos (by omega)]
        have := ih (i + 1) (acc + (m % 128 + 128) % 128 * 128 ^ i) (m / 128) r (by omega) (by simp; rw [Nat.pow_succ] at hm; omega) (by omega) (by omega)
        simp only [Nat.add_sub_cancel] at this
        rw [this]
        have e : acc + (m % 128 + 128) % 128 * 128 ^ i + m / 128 * 128 ^ (i + 1) = acc + m * 128 ^ i := by
          have h1 : (m % 128 + 128) % 128 = m % 128 := by omega
          have h2 : m % 128 + m / 128 * 128 = m := by omega
          rw [h1, Nat.pow_succ]
          calc acc + m % 128 * 128 ^ i + m / 128 * (128 ^ i * 128) = acc + (m % 128 + m / 128 * 128) * 128 ^ i := by rw [Nat.add_mul]; rw [Nat.mul_comm (128 ^ i) 128, ← Nat.mul_assoc]; omega
            _ = acc + m * 128 ^ i := by rw [h2]
        rw [e]
        simp only [List.length_cons, Prod.mk.injEq, true_and, and_true]
        omega

theorem uintF_putU (n : Nat) (hn : n ≤ 18446744073709551615) (r : List UInt8) : uintF (putU n ++ r) = (n, (putU n).length, 0) := by
  have := uintGo_put 10 0 0 n r rfl (by omega) (by omega) (by omega)
  simpa [uintF, putU] using this

theorem u32F_le32 (n : Nat) (hn : n < 4294967296) (r : List UInt8) : (u32F (le32 n ++ r)).1 = n := by
  simp only [le32, List.cons_append, List.nil_append, u32F, UInt8.toNat_ofNat']
  omega

/-- what is laid as a frame is read as it, whatever stands behind it -/
theorem frameF_putF (kind : UInt8) (data r : List UInt8) (hd : data.length ≤ 2000) : frameF (putF kind data ++ r) = ⟨kind, data, (putF kind data).length, 0⟩ := by
  have hu := uintF_putU data.length (by omega) (data ++ r)
  have hlen := putF_length kind data
  have h5 : (putF kind data ++ r).drop 5 = putU data.length ++ (data ++ r) := by simp [putF, le32, restF]
  have h4 : (putF kind data ++ r).drop 4 = restF kind data ++ r := by simp [putF, le32]
  have hg : (putF kind data ++ r).getD 4 0 = kind := by simp [putF, le32, restF]
  have hsf := sumF_lt (restF kind data)
  unfold frameF
  rw [h5, hu, h4, hg]
  simp only [ne_eq, not_true_eq_false, if_false]
  rw [if_neg (by simp; omega), if_neg (by omega), if_neg (by simp [hlen]; omega), if_neg]
  · have h5' : (putF kind data ++ r).drop (5 + (putU data.length).length) = data ++ r := by
      rw [← List.drop_drop, h5, List.drop_left]
    rw [h5', List.take_left, hlen]
  · rw [← restF_length, List.take_left]
    refine fun hne => hne ?_
    rw [show putF kind data ++ r = le32 (sumF (restF kind data)) ++ (restF kind data ++ r) by simp [putF], u32F_le32 _ hsf]

/-! ### what is read was laid so -/

theorem uintGo_canon (f : Nat) : ∀ (i acc : Nat) (l : List UInt8) (n k : Nat), f + i = 10 → uintGo f i acc l = (n, k, 0) →
    ∃ m, n = acc + m * 128 ^ i ∧ m < 2 * 128 ^ (f - 1) ∧ (0 < i → 0 < m) ∧ i < k ∧ l.take (k - i) = putUk (f - 1) m := by
  induction f with
  | zero => intro i acc l n k _ h; simp [uintGo] at h
  | succ f ih =>
    intro i acc l n k hi h
    cases l with
    | nil => simp [uintGo] at h
    | cons c r =>
      have hc := c.toNat_lt
      simp only [uintGo] at h
      simp only [Nat.add_sub_cancel]
      by_cases h1 : 128 ≤ c.toNat
      · rw [if_pos h1] at h
        obtain ⟨m, e1, e2, e3, e4, e5⟩ := ih (i + 1) _ r n k (by omega) h
        cases f with
        | zero => simp [uintGo] at h
        | succ f =>
          simp only [Nat.add_sub_cancel] at e2 e5
          have hm : 0 < m := e3 (by omega)
          refine ⟨c.toNat % 128 + m * 128, ?_, ?_, by omega, by omega, ?_⟩
          · rw [e1, Nat.pow_succ, Nat.add_mul, Nat.add_assoc]
            congr 2
            rw [Nat.mul_assoc, Nat.mul_comm (128 ^ i) 128]
          · rw [Nat.pow_succ]; omega
          · rw [putUk_step (by omega), show k - i = (k - (i + 1)) + 1 from by omega, List.take_succ_cons, e5]
            rw [show (c.toNat % 128 + m * 128) / 128 = m from by omega, show (c.toNat % 128 + m * 128) % 128 + 128 = c.toNat from by omega]
            simp
      · rw [if_neg h1] at h
        by_cases h2 : (0 < i ∧ c.toNat = 0) ∨ (i = 9 ∧ 1 < c.toNat)
        · rw [if_pos h2] at h; simp at h
        · rw [if_neg h2] at h
          simp only [Prod.mk.injEq, and_true] at h
          obtain ⟨rfl, rfl⟩ := h
          refine ⟨c.toNat, by rw [Nat.mod_eq_of_lt (by omega)], ?_, by omega, by omega, ?_⟩
          · by_cases hf : f = 0
            · subst hf; simp; omega
            · have : 128 ^ 1 ≤ 128 ^ f := Nat.pow_le_pow_right (by omega) (by omega)
              omega
          · rw [show i + 1 - i = 1 from by omega, putUk_small (by omega)]
            simp

theorem uintF_canon (l : List UInt8) (n k : Nat) (h : uintF l = (n, k, 0)) : l.take k = putU n ∧ k = (putU n).length := by
  obtain ⟨m, e1, e2, e3, e4, e5⟩ := uintGo_canon 10 0 0 l n k rfl h
  have hk := uintF_facts l
  rw [h] at hk
  obtain rfl : n = m := by simpa using e1
  have e : l.take k = putU n := by simpa [putU] using e5
  refine ⟨e, ?_⟩
  have := congrArg List.length e
  rw [List.length_take, Nat.min_eq_left hk.2.2.1] at this
  exact this

theorem le32_u32F (l : List UInt8) (h : 4 ≤ l.length) : le32 (u32F l).1 = l.take 4 := by
  match l, h with
  | a :: b :: c :: d :: r, _ =>
    have ha := a.toNat_lt
    have hb := b.toNat_lt
    have hc := c.toNat_lt
    have hd := d.toNat_lt
    simp only [u32F, le32, List.take_succ_cons, List.take_zero, List.cons.injEq, and_true]
    refine ⟨?_, ?_, ?_, ?_⟩ <;> apply UInt8.toNat_inj.1 <;> rw [UInt8.toNat_ofNat'] <;> omega

/-- a frame that was read was laid so -/
theorem frameF_canon (l : List UInt8) (h : (frameF l).e = 0) : (frameF l).data.length ≤ 2000 ∧ (frameF l).n ≤ l.length ∧ l.take (frameF l).n = putF (frameF l).kind (frameF l).data := by
  have hfc := uintF_facts (l.drop 5)
  have hca := uintF_canon (l.drop 5)
  generalize hU : uintF (l.drop 5) = r at hfc hca
  obtain ⟨m, k, er⟩ := r
  dsimp only at hfc
  obtain ⟨f1, f2, f3, f4⟩ := hfc
  unfold frameF at h ⊢
  rw [hU] at h ⊢
  by_cases h5 : l.length < 5
  · rw [if_pos h5] at h; simp at h
  rw [if_neg h5] at h ⊢
  by_cases h6 : er ≠ 0
  · rw [if_pos h6] at h; exact absurd h h6
  rw [if_neg h6] at h ⊢
  obtain rfl : er = 0 := by omega
  dsimp only at h ⊢
  by_cases h7 : 2000 < m
  · rw [if_pos h7] at h; simp at h
  rw [if_neg h7] at h ⊢
  by_cases h8 : l.length - 5 - k < m
  · rw [if_pos h8] at h; simp at h
  rw [if_neg h8] at h ⊢
  by_cases h9 : (u32F l).1 ≠ sumF ((l.drop 4).take (1 + k + m))
  · rw [if_pos h9] at h; simp at h
  rw [if_neg h9] at h ⊢
  have h9 : (u32F l).1 = sumF ((l.drop 4).take (1 + k + m)) := Decidable.byContradiction h9
  dsimp only
  rw [List.length_drop] at f3
  obtain ⟨c1, c2⟩ := hca m k rfl
  have hdl : ((l.drop (5 + k)).take m).length = m := by rw [List.length_take, List.length_drop]; omega
  refine ⟨by omega, by omega, ?_⟩
  have hrest : (l.drop 4).take (1 + k + m) = restF (l.getD 4 0) ((l.drop (5 + k)).take m) := by
    unfold restF
    rw [hdl, ← c1, List.drop_eq_getElem_cons (show 4 < l.length by omega), show 1 + k + m = (k + m) + 1 from by omega, List.take_succ_cons, List.getD_eq_getElem?_getD, List.getElem?_eq_getElem (by omega), Option.getD_some]
    congr 1
    rw [List.take_add, List.drop_drop]
  unfold putF
  rw [← hrest, ← h9, le32_u32F l (by omega), show 5 + k + m = 4 + (1 + k + m) from by omega, List.take_add]

theorem frameF_bad (l : List UInt8) (h : (frameF l).e ≠ 0) : (frameF l).n = 0 ∧ (frameF l).kind = 0 ∧ (frameF l).data = [] := by
  unfold frameF at h ⊢
  by_cases h5 : l.length < 5
  · rw [if_pos h5]; exact ⟨rfl, rfl, rfl⟩
  rw [if_neg h5] at h ⊢
  by_cases h6 : (uintF (l.drop 5)).2.2 ≠ 0
  · rw [if_pos h6]; exact ⟨rfl, rfl, rfl⟩
  rw [if_neg h6] at h ⊢
  by_cases h7 : 2000 < (uintF (l.drop 5)).1
  · rw [if_pos h7]; exact ⟨rfl, rfl, rfl⟩
  rw [if_neg h7] at h ⊢
  by_cases h8 : l.length - 5 - (uintF (l.drop 5)).2.1 < (uintF (l.drop 5)).1
  · rw [if_pos h8]; exact ⟨rfl, rfl, rfl⟩
  rw [if_neg h8] at h ⊢
  by_cases h9 : (u32F l).1 ≠ sumF ((l.drop 4).take (1 + (uintF (l.drop 5)).2.1 + (uintF (l.drop 5)).1))
  · rw [if_pos h9]; exact ⟨rfl, rfl, rfl⟩
  rw [if_neg h9] at h
  exact absurd rfl h

/-- one byte changed: not the same frame -/
theorem frameF_flip (kind : UInt8) (data : List UInt8) (q : Nat) (c : UInt8) (hq : q < (putF kind data).length) (hc : c ≠ (putF kind data)[q]) (h : (frameF ((putF kind data).set q c)).e = 0) :
    (frameF ((putF kind data).set q c)).n ≤ (putF kind data).length ∧ ¬ [((frameF ((putF kind data).set q c)).kind, (frameF ((putF kind data).set q c)).data)] = [(kind, data)] := by
  obtain ⟨h1, h2, h3⟩ := frameF_canon _ h
  rw [List.length_set] at h2
  refine ⟨h2, fun he => ?_⟩
  simp only [List.cons.injEq, Prod.mk.injEq, and_true] at he
  rw [he.1, he.2] at h3
  have hl := congrArg List.length h3
  rw [List.length_take, List.length_set] at hl
  rw [List.take_of_length_le (by rw [List.length_set]; omega)] at h3
  apply hc
  have := congrArg (fun x => x[q]?) h3
  simp only [List.getElem?_set_self hq, List.getElem?_eq_getElem hq, Option.some.injEq] at this
  exact this
end Go.Proofs.Ythobhkmphjnlaaa
