/- What the document's Read says is what the code's Read says: the plain law. -/
import Derived.Test.YtbpcgfplokkfpaaBackL
namespace Go.Proofs.Ytbpcgfplokkfpaa
open Go.RowKit
set_option linter.unusedVariables false
set_option linter.unusedSimpArgs false

/-- the document's loop: no look at whether runs touch -/
def rreadL (l : List UInt8) : Nat → Nat × Bool → List Run → List Run × (Nat × Bool)
  | 0, st, acc => (acc, st)
  | m + 1, st, acc =>
    if st.2 = true then (acc, st)
    else rreadL l m (nextF l (nextF l st).2).2 (acc ++ [(((nextF l st).1 : Int), ((nextF l (nextF l st).2).1 : Int))])
theorem rreadL_bad (l : List UInt8) (m : Nat) (st : Nat × Bool) (acc : List Run) (h : st.2 = true) : rreadL l m st acc = (acc, st) := by
  cases m
  · rfl
  · unfold rreadL; rw [if_pos h]
theorem rreadL_succ (l : List UInt8) (m : Nat) (at0 f at1 n at2 : Nat) (b1 b2 : Bool) (acc : List Run) (h1 : nextF l (at0, false) = (f, (at1, b1))) (h2 : nextF l (at1, b1) = (n, (at2, b2))) : rreadL l (m + 1) (at0, false) acc = rreadL l m (at2, b2) (acc ++ [((f : Int), (n : Int))]) := by
  rw [rreadL, if_neg (by simp)]
  rw [h1]
  dsimp only
  rw [h2]
theorem rreadL_end (l : List UInt8) (m : Nat) (at0 : Nat) (bad : Bool) (acc : List Run) (h : ¬ (0 < m ∧ bad = false)) : rreadL l m (at0, bad) acc = (acc, (at0, bad)) := by
  by_cases h0 : m = 0
  · subst h0; rfl
  · exact rreadL_bad l m _ acc (by cases bad; exact absurd ⟨by omega, rfl⟩ h; rfl)
def rreadF (l : List UInt8) : Option (Int × List Run × Nat) :=
  let s := nextF l (0, false)
  let m := nextF l s.2
  let r := rreadL l m.1 m.2 []
  if r.2.2 = true ∨ extF 0 (s.1 : Nat) r.1 ≠ 0 then none
  else if nodeB (s.1 : Nat) (expand r.1) = l.take r.2.1 then some (((s.1 : Nat) : Int), r.1, r.2.1) else none
theorem rreadF_of {l : List UInt8} {s0 a0 m0 a1 aE : Nat} {b0 b1 bE : Bool} {X : List Run} (h1 : nextF l (0, false) = (s0, (a0, b0))) (h2 : nextF l (a0, b0) = (m0, (a1, b1))) (h3 : rreadL l m0 (a1, b1) [] = (X, (aE, bE))) :
    rreadF l = if bE = true ∨ extF 0 (s0 : Int) X ≠ 0 then none else if nodeB (s0 : Int) (expand X) = l.take aE then some ((s0 : Int), X, aE) else none := by
  unfold rreadF
  simp only [h1, h2, h3]

theorem nextF_bad (l : List UInt8) (at0 : Nat) : ∀ n at1 b, nextF l (at0, true) = (n, (at1, b)) → b = true := by
  intro n at1 b h
  unfold nextF at h
  split at h
  · simp only [Prod.mk.injEq] at h; exact h.2.2.symm
  · simp only [Prod.mk.injEq] at h; exact h.2.2.symm
theorem nextF_good {l : List UInt8} {at0 n at1 : Nat} (h : nextF l (at0, false) = (n, (at1, false))) : l.drop at0 = putU n ++ l.drop at1 ∧ at1 = at0 + (putU n).length ∧ n ≤ 32768 := by
  unfold nextF at h
  split at h
  · simp at h
  · rename_i hc
    dsimp only at hc
    simp only [Prod.mk.injEq, and_true] at h
    obtain ⟨rfl, rfl⟩ := h
    obtain ⟨c1, c2⟩ := uintF_canon (l.drop at0) _ _ (show uintF (l.drop at0) = ((uintF (l.drop at0)).1, (uintF (l.drop at0)).2.1, 0) by
      have : (uintF (l.drop at0)).2.2 = 0 := by omega
      rw [← this])
    refine ⟨?_, by omega, by omega⟩
    have := List.take_append_drop (uintF (l.drop at0)).2.1 (l.drop at0)
    rw [c1, List.drop_drop] at this
    exact this.symm
/-- where the document's loop ends well: what it has read, and where from -/
theorem rreadL_good (l : List UInt8) : ∀ (m : Nat) (at0 : Nat) (bad : Bool) (acc Y : List Run) (aE : Nat), rreadL l m (at0, bad) acc = (Y, (aE, false)) →
    bad = false ∧ ∃ Z, Y = acc ++ Z ∧ Z.length = m ∧ l.drop at0 = Z.flatMap runB ++ l.drop aE ∧ aE = at0 + (Z.flatMap runB).length ∧ ∀ r ∈ Z, 0 ≤ r.1 ∧ r.1 ≤ 32768 ∧ 0 ≤ r.2 ∧ r.2 ≤ 32768 := by
  intro m
  induction m with
  | zero =>
    intro at0 bad acc Y aE h
    simp only [rreadL, Prod.mk.injEq] at h
    obtain ⟨rfl, rfl, rfl⟩ := h
    exact ⟨rfl, [], by simp, rfl, by simp, by simp, by simp⟩
  | succ m ih =>
    intro at0 bad acc Y aE h
    cases bad with
    | true => rw [rreadL_bad _ _ _ _ rfl] at h; simp at h
    | false =>
      refine ⟨rfl, ?_⟩
      obtain ⟨f, x1, q1, hf0⟩ : ∃ f x1 q1, nextF l (at0, false) = (f, (x1, q1)) := ⟨_, _, _, rfl⟩
      obtain ⟨n, x2, q2, hn0⟩ : ∃ n x2 q2, nextF l (x1, q1) = (n, (x2, q2)) := ⟨_, _, _, rfl⟩
      rw [rreadL_succ l m at0 f x1 n x2 q1 q2 acc hf0 hn0] at h
      obtain ⟨rfl, Z, rfl, hZ, hd, ha, hb⟩ := ih _ _ _ _ _ h
      have hq : q1 = false := by
        cases q1
        · rfl
        · exact absurd (nextF_bad l x1 _ _ _ hn0) (by simp)
      subst hq
      obtain ⟨g1, g2, g3⟩ := nextF_good hf0
      obtain ⟨g4, g5, g6⟩ := nextF_good hn0
      refine ⟨((f : Int), (n : Int)) :: Z, by simp, by simp [hZ], ?_, ?_, ?_⟩
      · rw [g1, g4, hd, List.flatMap_cons]
        simp [runB]
      · rw [List.flatMap_cons, ha, g5, g2]
        simp [runB]; omega
      · intro r hr
        rcases List.mem_cons.1 hr with rfl | hr
        · exact ⟨by dsimp only; omega, by dsimp only; omega, by dsimp only; omega, by dsimp only; omega⟩
        · exact hb r hr
/-- where the code's loop ends well, the document's ends so too, and no run touches the next one -/
theorem readL_rread (l : List UInt8) : ∀ (m : Nat) (at0 : Nat) (bad : Bool) (acc Y : List Run) (aE : Nat), Apart acc → readL l m (at0, bad) acc = (Y, (aE, false)) → rreadL l m (at0, bad) acc = (Y, (aE, false)) ∧ Apart Y := by
  intro m
  induction m with
  | zero =>
    intro at0 bad acc Y aE ha h
    simp only [readL, Prod.mk.injEq] at h
    obtain ⟨rfl, rfl, rfl⟩ := h
    exact ⟨rfl, ha⟩
  | succ m ih =>
    intro at0 bad acc Y aE ha h
    cases bad with
    | true => rw [readL_bad _ _ _ _ rfl] at h; simp at h
    | false =>
      obtain ⟨f, x1, q1, hf0⟩ : ∃ f x1 q1, nextF l (at0, false) = (f, (x1, q1)) := ⟨_, _, _, rfl⟩
      obtain ⟨n, x2, q2, hn0⟩ : ∃ n x2 q2, nextF l (x1, q1) = (n, (x2, q2)) := ⟨_, _, _, rfl⟩
      rw [readL_succ l m at0 f x1 n x2 q1 q2 acc hf0 hn0] at h
      rw [rreadL_succ l m at0 f x1 n x2 q1 q2 acc hf0 hn0]
      cases hg : glued acc f with
      | true =>
        rw [hg, Bool.or_true, readL_bad _ _ _ _ rfl] at h
        simp at h
      | false =>
        rw [hg, Bool.or_false] at h
        have ha2 : Apart (acc ++ [((f : Int), (n : Int))]) := by
          rcases snoc_cases acc with rfl | ⟨A, k, rfl⟩
          · intro C a b B e
            have := congrArg List.length e
            simp at this
            omega
          · refine apart_snoc ha ?_
            unfold glued at hg
            rw [List.getLast?_concat] at hg
            simpa using hg
        exact ih _ _ _ _ _ ha2 h
theorem fold_apart : ∀ (X acc : List Run), Apart (acc ++ X) → X.foldl putR acc = acc ++ X := by
  intro X
  induction X with
  | nil => intro acc _; simp
  | cons r X ih =>
    intro acc h
    have hp : putR acc r = acc ++ [r] := by
      rcases snoc_cases acc with rfl | ⟨A, k, rfl⟩
      · rfl
      · rw [putR_snoc, if_neg (h A k r X (by simp))]
    rw [List.foldl_cons, hp, ih _ (by simpa using h)]
    simp
theorem whole_apart {X : List Run} (h : Apart X) (hl : ∀ r ∈ X, 1 ≤ r.2) : whole (expand X) = X := by
  rw [← whole_of X hl, fold_apart X [] (by simpa using h), List.nil_append]
theorem ext_lens {s : Int} {X : List Run} (h : extF 0 s X = 0) : ∀ r ∈ X, 1 ≤ r.2 := by
  have hk := ext_ok NodeOk.empty h
  exact fun r hr => ((extOk_lens _ _ hk.2.2.2).1 r hr).2.1
theorem flat_inj : ∀ (A B : List Run) (t t' : List UInt8), A.length = B.length → (∀ r ∈ A, 0 ≤ r.1 ∧ r.1 ≤ 32768 ∧ 0 ≤ r.2 ∧ r.2 ≤ 32768) → (∀ r ∈ B, 0 ≤ r.1 ∧ r.1 ≤ 32768 ∧ 0 ≤ r.2 ∧ r.2 ≤ 32768) → A.flatMap runB ++ t = B.flatMap runB ++ t' → A = B := by
  intro A
  induction A with
  | nil => intro B t t' hl _ _ _; exact (List.eq_nil_of_length_eq_zero hl.symm).symm
  | cons a A ih =>
    intro B t t' hl ha hb h
    cases B with
    | nil => simp at hl
    | cons b B =>
      obtain ⟨a1, a2⟩ := a
      obtain ⟨b1, b2⟩ := b
      have h1 := ha (a1, a2) (by simp)
      have h2 := hb (b1, b2) (by simp)
      dsimp only at h1 h2
      obtain ⟨a1, rfl⟩ := Int.eq_ofNat_of_zero_le h1.1
      obtain ⟨a2, rfl⟩ := Int.eq_ofNat_of_zero_le h1.2.2.1
      obtain ⟨b1, rfl⟩ := Int.eq_ofNat_of_zero_le h2.1
      obtain ⟨b2, rfl⟩ := Int.eq_ofNat_of_zero_le h2.2.2.1
      rw [List.flatMap_cons, List.flatMap_cons] at h
      simp only [runB, Int.toNat_natCast, List.append_assoc] at h
      have u1 := uintF_putU a1 (by omega) (putU a2 ++ (A.flatMap runB ++ t))
      have u2 := uintF_putU b1 (by omega) (putU b2 ++ (B.flatMap runB ++ t'))
      have e1 : a1 = b1 := by
        have := u1.symm.trans ((congrArg uintF h).trans u2)
        simp only [Prod.mk.injEq] at this
        exact this.1
      subst e1
      have h3 := List.append_cancel_left h
      have u3 := uintF_putU a2 (by omega) (A.flatMap runB ++ t)
      have u4 := uintF_putU b2 (by omega) (B.flatMap runB ++ t')
      have e2 : a2 = b2 := by
        have := u3.symm.trans ((congrArg uintF h3).trans u4)
        simp only [Prod.mk.injEq] at this
        exact this.1
      subst e2
      rw [ih B t t' (by simpa using hl) (fun r hr => ha r (by simp [hr])) (fun r hr => hb r (by simp [hr])) (List.append_cancel_left h3)]

theorem rreadF_eq (l : List UInt8) : rreadF l = readF l := by
  obtain ⟨s0, a0, b0, hs0⟩ : ∃ s0 a0 b0, nextF l (0, false) = (s0, (a0, b0)) := ⟨_, _, _, rfl⟩
  obtain ⟨m0, a1, b1, hm0⟩ : ∃ m0 a1 b1, nextF l (a0, b0) = (m0, (a1, b1)) := ⟨_, _, _, rfl⟩
  obtain ⟨X, aE, bE, hR⟩ : ∃ X aE bE, readL l m0 (a1, b1) [] = (X, (aE, bE)) := ⟨_, _, _, rfl⟩
  obtain ⟨Y, cE, dE, hRR⟩ : ∃ X aE bE, rreadL l m0 (a1, b1) [] = (X, (aE, bE)) := ⟨_, _, _, rfl⟩
  rw [readF_of hs0 hm0 hR, rreadF_of hs0 hm0 hRR]
  have hnil : Apart ([] : List Run) := by intro C a b B e; simp at e
  -- what the document has read, where its loop ends well
  have hgood : dE = false → b0 = false ∧ Y.length = m0 ∧ (∀ r ∈ Y, 0 ≤ r.1 ∧ r.1 ≤ 32768 ∧ 0 ≤ r.2 ∧ r.2 ≤ 32768) ∧ l.take cE = putU s0 ++ (putU m0 ++ Y.flatMap runB) ∧ s0 ≤ 32768 ∧ m0 ≤ 32768 ∧ l = (putU s0 ++ (putU m0 ++ Y.flatMap runB)) ++ l.drop cE ∧ b1 = false := by
    intro hd
    subst hd
    obtain ⟨rfl, Z, hZ, hZl, hd, ha, hb⟩ := rreadL_good l _ _ _ _ _ _ hRR
    rw [List.nil_append] at hZ
    subst hZ
    have hb0 : b0 = false := by
      cases b0
      · rfl
      · exact absurd (nextF_bad l a0 _ _ _ hm0) (by simp)
    subst hb0
    obtain ⟨g1, g2, g3⟩ := nextF_good hs0
    obtain ⟨g4, g5, g6⟩ := nextF_good hm0
    rw [List.drop_zero] at g1
    have hl : l = (putU s0 ++ (putU m0 ++ Y.flatMap runB)) ++ l.drop cE := by
      rw [List.append_assoc, List.append_assoc, ← hd, ← g4, ← g1]
    have hc : cE = (putU s0 ++ (putU m0 ++ Y.flatMap runB)).length := by
      rw [ha, g5, g2]; simp [Nat.add_assoc]
    refine ⟨rfl, hZl, hb, ?_, g3, g6, hl, rfl⟩
    rw [hc]
    conv => lhs; rw [hl]
    exact List.take_left' rfl
  cases bE with
  | false =>
    obtain ⟨h1, h2⟩ := readL_rread l _ _ _ _ _ _ hnil hR
    have := hRR.symm.trans h1
    simp only [Prod.mk.injEq] at this
    obtain ⟨rfl, rfl, rfl⟩ := this
    obtain ⟨-, hl, hb, ht, -⟩ := hgood rfl
    by_cases hE : extF 0 (s0 : Int) Y = 0
    · have hno : ¬ (false = true ∨ extF 0 (s0 : Int) Y ≠ 0) := by simp [hE]
      rw [if_neg hno, if_neg hno, if_pos]
      rw [ht]
      unfold nodeB
      rw [whole_apart h2 (ext_lens hE), hl, Int.toNat_natCast, List.append_assoc]
    · rw [if_pos (.inr hE), if_pos (.inr hE)]
  | true =>
    have hy : (true = true ∨ extF 0 (s0 : Int) X ≠ 0) := .inl rfl
    rw [if_pos hy]
    cases dE with
    | true =>
      have hz : (true = true ∨ extF 0 (s0 : Int) Y ≠ 0) := .inl rfl
      rw [if_pos hz]
    | false =>
      obtain ⟨rfl, hl, hb, ht, h3, h4, hl2, rfl⟩ := hgood rfl
      by_cases hE : extF 0 (s0 : Int) Y = 0
      · have hno : ¬ (false = true ∨ extF 0 (s0 : Int) Y ≠ 0) := by simp [hE]
        rw [if_neg hno, if_neg]
        intro h
        rw [ht] at h
        unfold nodeB at h
        rw [Int.toNat_natCast, List.append_assoc] at h
        have h5 := List.append_cancel_left h
        have hok := (ext_ok NodeOk.empty hE).1
        rw [List.nil_append] at hok
        have hin := whole_in hok.blk
        have hwl := whole_len (expand Y)
        have h64 := hok.len64
        have u1 := uintF_putU (whole (expand Y)).length (by omega) ((whole (expand Y)).flatMap runB)
        have u2 := uintF_putU m0 (by omega) (Y.flatMap runB)
        have e1 : (whole (expand Y)).length = m0 := by
          have := u1.symm.trans ((congrArg uintF h5).trans u2)
          simp only [Prod.mk.injEq] at this
          exact this.1
        rw [e1] at h5
        have h6 := List.append_cancel_left h5
        have hW : whole (expand Y) = Y := flat_inj _ _ [] [] (by rw [e1, hl]) (fun r hr => by have := hin r hr; omega) hb (by rw [h6])
        have hap := apart_whole (expand Y)
        rw [hW] at hap
        obtain ⟨g1, g2, g3⟩ := nextF_good hs0
        obtain ⟨g4, g5, g6⟩ := nextF_good hm0
        have hd3 : l.drop a1 = Y.flatMap runB ++ l.drop cE := by
          have e : a1 = (putU s0 ++ putU m0).length := by rw [g5, g2]; simp
          rw [e]
          conv => lhs; rw [hl2]
          rw [show putU s0 ++ (putU m0 ++ Y.flatMap runB) ++ l.drop cE = (putU s0 ++ putU m0) ++ (Y.flatMap runB ++ l.drop cE) by simp]
          exact List.drop_left' rfl
        have hrun := readL_runs l (l.drop cE) Y [] a1 hd3 hb (by simpa using hap)
        rw [hl] at hrun
        have := hR.symm.trans hrun
        simp at this
      · rw [if_pos (.inr hE)]
end Go.Proofs.Ytbpcgfplokkfpaa
