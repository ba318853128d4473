/- Maps of blocks in plain Lean: what Take, Give, Commit do to what is free. -/
import Derived.Test.YtbpcgfplokkfpaaAlT
namespace Go.Proofs.Ytbpcgfplokkfpaa
set_option linter.unusedVariables false
set_option linter.unusedSimpArgs false

theorem setAll_get (now : List Bool) (x : Nat) : ∀ l : List Nat, (setAll now l)[x]? = if x ∈ l ∧ x < now.length then some true else now[x]? := by
  intro l
  have key : ∀ (n : Nat) (l : List Nat), l.length = n → (setAll now l)[x]? = if x ∈ l ∧ x < now.length then some true else now[x]? := by
    intro n
    induction n with
    | zero => intro l hl; obtain rfl := List.eq_nil_of_length_eq_zero hl; simp [setAll]
    | succ n ih =>
      intro l hl
      rcases snoc_cases l with rfl | ⟨a, k, rfl⟩
      · simp at hl
      · rw [setAll_snoc, List.getElem?_set, setAll_len, ih a (by simpa using hl)]
        by_cases hk : k = x
        · subst hk
          by_cases hx : k < now.length
          · simp [hx]
          · simp only [hx, and_false, if_false, if_true]
            rw [List.getElem?_eq_none (by omega)]
        · have : x ≠ k := fun e => hk e.symm
          simp [hk, this]
  exact key _ l rfl
theorem freeAt_iff {now last : List Bool} {i : Nat} : freeAt now last i = true ↔ now[i]? = some false ∧ last[i]? = some false := by
  unfold freeAt
  rw [List.getD_eq_getElem?_getD, List.getD_eq_getElem?_getD]
  cases now[i]? with
  | none => simp
  | some a => cases last[i]? with
    | none => simp
    | some b => cases a <;> cases b <;> simp
theorem freeIdx_mem {now last : List Bool} {i : Nat} : i ∈ freeIdx now last ↔ i < now.length ∧ freeAt now last i = true := freeBelow_mem
theorem freeIdx_nodup (now last : List Bool) : (freeIdx now last).Nodup := by
  unfold freeIdx freeBelow
  exact (List.nodup_range).filter _
theorem filter_notin_take {l : List Nat} (h : l.Nodup) (n : Nat) : l.filter (fun i => decide (i ∉ l.take n)) = l.drop n := by
  conv => lhs; arg 2; rw [← List.take_append_drop n l]
  rw [List.filter_append]
  rw [← List.take_append_drop n l, List.nodup_append] at h
  rw [List.filter_eq_nil_iff.2 (fun a ha => by simp [ha]), List.nil_append, List.filter_eq_self.2]
  intro a ha
  simp only [decide_eq_true_eq]
  exact fun hm => h.2.2 a hm a ha rfl
theorem free_set (now last : List Bool) (S : List Nat) : freeIdx (setAll now S) last = (freeIdx now last).filter (fun i => decide (i ∉ S)) := by
  unfold freeIdx freeBelow
  rw [setAll_len, List.filter_filter]
  apply List.filter_congr
  intro i hi
  have hi' := List.mem_range.1 hi
  rw [Bool.eq_iff_iff, Bool.and_eq_true, freeAt_iff, freeAt_iff, setAll_get, decide_eq_true_eq]
  by_cases hm : i ∈ S
  · simp [hm, hi']
  · simp [hm]
theorem free_take (now last : List Bool) (n : Nat) : freeIdx (setAll now ((freeIdx now last).take n)) last = (freeIdx now last).drop n := by
  rw [free_set, filter_notin_take (freeIdx_nodup now last) n]
theorem free_take_len (now last : List Bool) (n : Nat) : (freeIdx (setAll now ((freeIdx now last).take n)) last).length = (freeIdx now last).length - n := by rw [free_take, List.length_drop]
/-- a block that Take takes, behind those that it took before -/
theorem take_next {now last : List Bool} {n : Nat} {rs : List (Nat × Nat)} (hf : flat rs = (freeIdx now last).take n) {k m a c : Nat} (hk : rs[k]? = some (a, c)) (hm : m < c) :
    a + m < now.length ∧ last[a + m]? = some false ∧ (setAll now (flat (rs.take k) ++ List.range' a m))[a + m]? = some false := by
  have hsplit : flat rs = flat (rs.take k) ++ List.range' a m ++ (a + m) :: (List.range' (a + m + 1) (c - m - 1) ++ flat (rs.drop (k + 1))) := by
    have hlt : k < rs.length := (List.getElem?_eq_some_iff.1 hk).1
    have hge : rs[k] = (a, c) := (List.getElem?_eq_some_iff.1 hk).2
    conv => lhs; rw [← List.take_append_drop k rs, List.drop_eq_getElem_cons hlt, hge, flat_append]
    rw [show flat ((a, c) :: rs.drop (k + 1)) = List.range' a c ++ flat (rs.drop (k + 1)) from rfl]
    obtain ⟨d, rfl⟩ : ∃ d, c = m + (d + 1) := ⟨c - m - 1, by omega⟩
    rw [← List.range'_append_1, show m + (d + 1) - m - 1 = d from by omega, List.range'_succ]
    simp [List.append_assoc]
  have hnd : (flat rs).Nodup := by rw [hf]; exact (freeIdx_nodup now last).sublist (List.take_sublist _ _)
  have hmem : a + m ∈ freeIdx now last := by
    have : a + m ∈ flat rs := by rw [hsplit]; simp
    rw [hf] at this
    exact List.mem_of_mem_take this
  obtain ⟨h1, h2⟩ := freeIdx_mem.1 hmem
  obtain ⟨h3, h4⟩ := freeAt_iff.1 h2
  refine ⟨h1, h4, ?_⟩
  rw [setAll_get, if_neg, h3]
  rintro ⟨hin, -⟩
  rw [hsplit, List.nodup_append] at hnd
  exact hnd.2.2 _ hin _ (by simp) rfl
theorem canon_in {now last : List Bool} {n : Nat} {rs : List (Nat × Nat)} (hc : Canon rs) (hf : flat rs = (freeIdx now last).take n) {r : Nat × Nat} (hr : r ∈ rs) : 1 ≤ r.2 ∧ r.1 + r.2 ≤ now.length := by
  have h1 := hc.1 r hr
  have h2 : r.1 + (r.2 - 1) ∈ flat rs := List.mem_flatMap.2 ⟨r, hr, List.mem_range'.2 ⟨r.2 - 1, by omega, by omega⟩⟩
  rw [hf] at h2
  have := (freeIdx_mem.1 (List.mem_of_mem_take h2)).1
  omega
/-- how many blocks are in use -/
def usedN (now : List Bool) : Nat := (now.filter id).length
theorem usedN_take_succ (now : List Bool) (j : Nat) (h : j < now.length) : usedN (now.take (j + 1)) = usedN (now.take j) + if now[j] = true then 1 else 0 := by
  unfold usedN
  rw [List.take_succ_eq_append_getElem h, List.filter_append, List.length_append]
  cases now[j] <;> rfl
theorem usedN_le (now : List Bool) : usedN now ≤ now.length := List.length_filter_le _ _
theorem free_commit (now : List Bool) : (freeIdx now now).length + usedN now = now.length := by
  have key : ∀ n, n ≤ now.length → (freeBelow now now n).length + usedN (now.take n) = n := by
    intro n
    induction n with
    | zero => intro _; simp [freeBelow, usedN]
    | succ n ih =>
      intro h
      have hlt : n < now.length := by omega
      have e := usedN_take_succ now n hlt
      have ih' := ih (by omega)
      cases hb : now[n] with
      | true =>
        rw [freeBelow_no (by unfold freeAt; rw [List.getD_eq_getElem?_getD, List.getElem?_eq_getElem hlt, hb]; rfl)]
        rw [hb, if_pos rfl] at e
        omega
      | false =>
        rw [freeBelow_yes (by unfold freeAt; rw [List.getD_eq_getElem?_getD, List.getElem?_eq_getElem hlt, hb]; rfl), List.length_append, List.length_singleton]
        rw [hb] at e
        simp only [Bool.false_eq_true, if_false] at e
        omega
  have := key now.length (Nat.le_refl _)
  rwa [List.take_length] at this
/-- one block given -/
theorem give_one (now : List Bool) (j : Nat) : giveF now [((j : Int), 1)] = if now[j]? = some true then some (now.set j false) else none := by
  have e : giveF now [((j : Int), 1)] = giveRun now ((j : Int), 1) := by
    show ((giveRun now ((j : Int), 1)).bind fun n => some n) = _
    cases giveRun now ((j : Int), 1) <;> rfl
  rw [e]
  unfold giveRun
  have e1 : ((j : Int), (1 : Int)).1.toNat = j := by simp
  have e2 : ((j : Int), (1 : Int)).2.toNat = 1 := rfl
  rw [e1, e2]
  by_cases hj : j < now.length
  · have h1 : runIn now ((j : Int), 1) := by unfold runIn; dsimp only; omega
    have h2 : (List.range' j 1).all (fun i => now.getD i false) = now[j] := by
      simp [List.range'_one, List.getD_eq_getElem?_getD, List.getElem?_eq_getElem hj]
    rw [h2, List.getElem?_eq_getElem hj]
    cases now[j] with
    | true => rw [if_pos ⟨h1, rfl⟩, if_pos rfl]; rfl
    | false => rw [if_neg (fun h => by cases h.2), if_neg (by simp)]
  · rw [if_neg (fun h => by have := h.1; unfold runIn at this; dsimp only at this; omega), if_neg (by rw [List.getElem?_eq_none (by omega)]; simp)]
end Go.Proofs.Ytbpcgfplokkfpaa
