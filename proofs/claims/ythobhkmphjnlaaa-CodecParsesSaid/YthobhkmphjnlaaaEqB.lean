/- bytes.Equal, walked; what the reader's loops have read. -/
import Derived.Test.YthobhkmphjnlaaaFld
namespace Go.Proofs.Ythobhkmphjnlaaa
open Go.RowKit
set_option linter.unusedVariables false
set_option linter.unusedSimpArgs false

set_option maxRecDepth 100000 in
set_option maxHeartbeats 400000 in
theorem Equal_any (w : World) (va vb : Value) (a b : List UInt8) (ha : RdB w va a) (hb : RdB w vb b) :
    Calls Try.prog 66 #[va, vb] w fun e w' => e = .returned (.bool (decide (a = b))) ∧ w = w' := by
  have h1 := run_strB ha
  have h2 := run_strB hb
  obtain ⟨aa, ac, rfl, -⟩ := ha
  obtain ⟨ba, bc, rfl, -⟩ := hb
  by_cases h : a = b
  · subst h
    go_enter Try.func66, Try.ntmps66
    go_wp2_with fail
    go_ret
    exact ⟨ret_bool (by simp), rfl⟩
  · have t := (beq_eq_false_iff_ne (a := a) (b := b)).2 h
    have HD := hid (decide_eq_false h)
    clear h
    go_enter Try.func66, Try.ntmps66
    go_wp2_with fail
    go_ret
    exact ⟨ret_bool (by rw [HD.out]), rfl⟩

/-- what the loop over fields comes to, from what it has -/
def accF (m : Nat) (st : St) (acc : List Fld) : List Fld × St := (acc ++ (rFlds m st).1, (rFlds m st).2)
theorem accF_zero (st : St) (acc : List Fld) : accF 0 st acc = (acc, st) := by simp [accF, rFlds]
theorem accF_bad (m : Nat) (st : St) (acc : List Fld) (h : st.2 = true) : accF m st acc = (acc, st) := by
  cases m
  · exact accF_zero st acc
  · unfold accF rFlds; rw [if_pos h]; simp
theorem accF_succ (m : Nat) (st : St) (acc : List Fld) (h : st.2 = false) : accF (m + 1) st acc = accF m (rFld st).2 (acc ++ [(rFld st).1]) := by
  unfold accF; rw [rFlds, if_neg (by rw [h]; decide)]; simp
def accE (m : Nat) (st : St) (acc : List Ev) : List Ev × St := (acc ++ (rEvs m st).1, (rEvs m st).2)
theorem accE_zero (st : St) (acc : List Ev) : accE 0 st acc = (acc, st) := by simp [accE, rEvs]
theorem accE_bad (m : Nat) (st : St) (acc : List Ev) (h : st.2 = true) : accE m st acc = (acc, st) := by
  cases m
  · exact accE_zero st acc
  · unfold accE rEvs; rw [if_pos h]; simp
theorem accE_succ (m : Nat) (st : St) (acc : List Ev) (h : st.2 = false) : accE (m + 1) st acc = accE m (rEv st).2 (acc ++ [(rEv st).1]) := by
  unfold accE; rw [rEvs, if_neg (by rw [h]; decide)]; simp

theorem tk_len (st : St) (n e : Nat) : (tk st n e).1.length ≤ st.1.length := by
  unfold tk; split
  · simp only [List.length_drop]; omega
  · simp
theorem rText_len (m : Int) (st : St) : (rText m st).2.1.length ≤ st.1.length ∧ (rText m st).1.size ≤ st.1.length := by
  refine ⟨tk_len _ _ _, ?_⟩
  have : (rText m st).1.size = (textF st.1 m).1.length := by
    show ((⟨(textF st.1 m).1.toArray⟩ : ByteArray)).size = _
    simp [ByteArray.size]
  rw [this]
  unfold textF
  split
  · simp
  · split
    · simp
    · split
      · simp
      · simp only [List.length_take, List.length_drop]; omega
theorem rNum_len (m : Nat) (st : St) : (rNum m st).2.1.length ≤ st.1.length ∧ (rNum m st).1 ≤ m := by
  refine ⟨tk_len _ _ _, ?_⟩
  unfold rNum numE
  dsimp only
  by_cases h : m < (uintF st.1).1
  · rw [if_pos h]; simp [tk]
  · rw [if_neg h]
    split
    · omega
    · omega
theorem rFld_len (st : St) : (rFld st).2.1.length ≤ st.1.length ∧ (rFld st).1.1.size ≤ st.1.length ∧ (rFld st).1.2.2.2.size ≤ st.1.length ∧ fldI (rFld st).1 := by
  have h1 := rText_len 60 st
  obtain ⟨T, hT⟩ : ∃ T, rText 60 st = T := ⟨_, rfl⟩
  obtain ⟨t, l, b⟩ := T
  rw [hT] at h1
  dsimp only at h1
  cases l with
  | nil => rw [rFld_nil hT]; refine ⟨by simp, by dsimp only; omega, by simp [ByteArray.size], by unfold fldI; dsimp only; omega⟩
  | cons c r =>
    simp only [List.length_cons] at h1
    by_cases h0 : c = 0
    · rw [rFld_num hT h0]
      have h2 := tk_len (c :: r, b) (1 + (uintF r).2.1) (uintF r).2.2
      simp only [List.length_cons] at h2
      have hf := uintF_facts r
      refine ⟨by dsimp only; omega, by dsimp only; omega, by simp [ByteArray.size], ?_⟩
      unfold fldI unzig
      dsimp only
      split <;> omega
    · by_cases hc : c = 1
      · rw [rFld_txt hT h0 hc]
        have h2 := rText_len 200 (r, b)
        dsimp only at h2
        refine ⟨by dsimp only; omega, by dsimp only; omega, by dsimp only; omega, by unfold fldI; dsimp only; omega⟩
      · rw [rFld_bad hT h0 hc]
        refine ⟨by simp; omega, by dsimp only; omega, by simp [ByteArray.size], by unfold fldI; dsimp only; omega⟩
end Go.Proofs.Ythobhkmphjnlaaa
