/- What a node is told as is read as that node: the plain law. -/
import Derived.Test.YtbpcgfplokkfpaaRead
import Derived.Test.YtbpcgfplokkfpaaLaw
namespace Go.Proofs.Ytbpcgfplokkfpaa
open Go.RowKit
set_option linter.unusedVariables false
set_option linter.unusedSimpArgs false

/-- no run touches the next one -/
def Apart (X : List Run) : Prop := ∀ A a b B, X = A ++ a :: b :: B → a.1 + a.2 ≠ b.1
theorem apart_snoc {A : List Run} {k r : Run} (h : Apart (A ++ [k])) (hr : k.1 + k.2 ≠ r.1) : Apart (A ++ [k] ++ [r]) := by
  intro C a b B e
  rcases snoc_cases B with rfl | ⟨B', z, rfl⟩
  · have e2 : A ++ [k] ++ [r] = C ++ [a] ++ [b] := by rw [e]; simp
    have h1 := List.append_inj' e2 rfl
    obtain ⟨h2, h3⟩ := h1
    have h4 := List.append_inj' h2 rfl
    obtain ⟨-, h5⟩ := h4
    simp only [List.cons.injEq, and_true] at h3 h5
    subst h3 h5
    exact hr
  · have e2 : A ++ [k] ++ [r] = (C ++ a :: b :: B') ++ [z] := by rw [e]; simp
    have h1 := (List.append_inj' e2 rfl).1
    exact h C a b B' h1
theorem apart_last {A : List Run} {k k' : Run} (h : Apart (A ++ [k])) (hk : k'.1 = k.1) : Apart (A ++ [k']) := by
  intro C a b B e
  rcases snoc_cases B with rfl | ⟨B', z, rfl⟩
  · have e2 : A ++ [k'] = (C ++ [a]) ++ [b] := by rw [e]; simp
    obtain ⟨h2, h3⟩ := List.append_inj' e2 rfl
    simp only [List.cons.injEq, and_true] at h3
    subst h3
    have := h C a k [] (by rw [h2]; simp)
    rw [hk]; exact this
  · have e2 : A ++ [k'] = (C ++ a :: b :: B') ++ [z] := by rw [e]; simp
    have h1 := (List.append_inj' e2 rfl).1
    exact h C a b (B' ++ [k]) (by rw [h1]; simp)
theorem apart_putR {l : List Run} {r : Run} (h : Apart l) : Apart (putR l r) := by
  rcases snoc_cases l with rfl | ⟨A, k, rfl⟩
  · rw [putR_nil]
    intro C a b B e
    have := congrArg List.length e
    simp at this
    omega
  · rw [putR_snoc]
    split
    · exact apart_last h rfl
    · rename_i hne
      exact apart_snoc h hne
theorem apart_whole (L : List Int) : Apart (whole L) := by
  have key : ∀ (M : List Int) (l : List Run), Apart l → Apart (M.foldl (fun l b => putR l (b, 1)) l) := by
    intro M
    induction M with
    | nil => intro l h; exact h
    | cons b M ih => intro l h; exact ih _ (apart_putR h)
  exact key L [] (by intro C a b B e; simp at e)

theorem extOk_of : ∀ (l : List Run) (need : Int), (∀ r ∈ l, 0 ≤ r.1 ∧ 1 ≤ r.2 ∧ r.1 + r.2 ≤ 512) → ((expand l).length : Int) = need → extOk l need = true := by
  intro l
  induction l with
  | nil => intro need _ h; simp [extOk, expand] at *; omega
  | cons r l ih =>
    intro need h1 h2
    have hr := h1 r (by simp)
    obtain ⟨f, n⟩ := r
    rw [expand_cons, List.length_append, expand_one_len] at h2
    dsimp only at hr
    simp only [extOk, badRun, Bool.and_eq_true, Bool.not_eq_true', decide_eq_false_iff_not]
    refine ⟨by omega, ih _ (fun r hr => h1 r (by simp [hr])) (by omega)⟩

theorem nextF_put {l r : List UInt8} {at0 n : Nat} (bad : Bool) (h : l.drop at0 = putU n ++ r) (hn : n ≤ 32768) : nextF l (at0, bad) = (n, (at0 + (putU n).length, bad)) := by
  unfold nextF
  dsimp only
  rw [h, uintF_putU n (by omega)]
  rw [if_neg (by simp; omega)]
theorem drop_step {l p r : List UInt8} {k : Nat} (h : l.drop k = p ++ r) : l.drop (k + p.length) = r := by
  rw [← List.drop_drop, h, List.drop_left]
theorem glued_apart {acc Y : List Run} {r : Run} (h : Apart (acc ++ r :: Y)) (x : Nat) (hx : r.1 = (x : Int)) : glued acc x = false := by
  rcases snoc_cases acc with rfl | ⟨A, k, rfl⟩
  · rfl
  · unfold glued
    rw [List.getLast?_concat]
    have := h A k r Y (by simp)
    rw [hx] at this
    exact decide_eq_false this

theorem readL_runs (l t : List UInt8) : ∀ (Y : List Run) (acc : List Run) (at0 : Nat), l.drop at0 = Y.flatMap runB ++ t → (∀ r ∈ Y, 0 ≤ r.1 ∧ r.1 ≤ 32768 ∧ 0 ≤ r.2 ∧ r.2 ≤ 32768) → Apart (acc ++ Y) →
    readL l Y.length (at0, false) acc = (acc ++ Y, (at0 + (Y.flatMap runB).length, false)) := by
  intro Y
  induction Y with
  | nil => intro acc at0 _ _ _; simp [readL]
  | cons r Y ih =>
    intro acc at0 hd hb ha
    obtain ⟨h1, h2, h3, h4⟩ := hb r (by simp)
    obtain ⟨f, n⟩ := r
    dsimp only at h1 h2 h3 h4
    obtain ⟨f, rfl⟩ := Int.eq_ofNat_of_zero_le h1
    obtain ⟨n, rfl⟩ := Int.eq_ofNat_of_zero_le h3
    have e1 : runB ((f : Int), (n : Int)) = putU f ++ putU n := rfl
    rw [List.flatMap_cons, e1, List.append_assoc, List.append_assoc] at hd
    have n1 := nextF_put false hd (by omega)
    have hd2 := drop_step hd
    have n2 := nextF_put false hd2 (by omega)
    have hd3 := drop_step hd2
    rw [List.length_cons, readL_succ l Y.length at0 f _ n _ false false acc n1 n2, glued_apart ha f rfl, Bool.false_or, ih _ _ hd3 (fun r hr => hb r (by simp [hr])) (by simpa using ha)]
    rw [List.flatMap_cons, e1]
    simp only [List.append_assoc, List.cons_append, List.nil_append, List.length_append, Nat.add_assoc]

theorem readF_back {s : Int} {L : List Int} (h : NodeOk s L) (t : List UInt8) : readF (nodeB s L ++ t) = some (s, whole L, (nodeB s L).length) := by
  have h0 := h.lo
  have h1 := h.hi
  have hl := h.len64
  have hwl := whole_len L
  have hin := whole_in h.blk
  obtain ⟨n, rfl⟩ := Int.eq_ofNat_of_zero_le h0
  have e0 : nodeB (n : Int) L = putU n ++ (putU (whole L).length ++ (whole L).flatMap runB) := by simp [nodeB]
  have hd : (nodeB (n : Int) L ++ t).drop 0 = putU n ++ (putU (whole L).length ++ ((whole L).flatMap runB ++ t)) := by
    rw [e0]; simp
  have n1 := nextF_put false hd (by omega)
  have hd2 := drop_step hd
  have n2 := nextF_put false hd2 (by omega)
  have hd3 := drop_step hd2
  have n3 := readL_runs _ t (whole L) [] _ hd3 (fun r hr => by have := hin r hr; omega) (by simpa using apart_whole L)
  have hx : extF 0 (n : Int) (whole L) = 0 := by
    have hnf : needF 0 (n : Int) = (nb (0 + (n : Int)) - nb 0, 0) := by unfold needF; rw [if_neg (by omega), if_neg (by omega)]
    unfold extF
    rw [hnf]
    have hb : extOk (whole L) (nb (0 + (n : Int)) - nb 0) = true := by
      refine extOk_of _ _ hin ?_
      rw [expand_whole, h.len, Int.zero_add]
      simp [nb]
    dsimp only
    rw [if_neg (by simp), if_pos hb]
  rw [readF_of n1 n2 n3, if_neg (by simp [hx]), List.nil_append]
  rw [e0]
  simp only [List.length_append, Nat.zero_add, Nat.add_assoc]
end Go.Proofs.Ytbpcgfplokkfpaa
