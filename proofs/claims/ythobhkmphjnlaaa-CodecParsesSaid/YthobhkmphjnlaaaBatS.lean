/- The document's reading of a batch; it and the code's come to the same. -/
import Derived.Test.YthobhkmphjnlaaaEvL
namespace Go.Proofs.Ythobhkmphjnlaaa
open Go.RowKit
set_option linter.unusedVariables false
set_option linter.unusedSimpArgs false

/-- one by one, till something is wrong -/
def many {α : Type} (f : St → α × St) : Nat → St → List α × St
  | 0, st => ([], st)
  | n + 1, st => if st.2 then ([], st) else ((f st).1 :: (many f n (f st).2).1, (many f n (f st).2).2)
def manyA {α : Type} (f : St → α × St) (m : Nat) (st : St) (acc : List α) : List α × St := (acc ++ (many f m st).1, (many f m st).2)
theorem manyA_succ {α : Type} (f : St → α × St) (m : Nat) (st : St) (acc : List α) (h : st.2 = false) : manyA f (m + 1) st acc = manyA f m (f st).2 (acc ++ [(f st).1]) := by
  unfold manyA
  conv => lhs; unfold many
  rw [if_neg (by simp [h])]
  simp
theorem manyA_end {α : Type} (f : St → α × St) (m : Nat) (st : St) (acc : List α) (h : ¬ (0 < m ∧ st.2 = false)) : manyA f m st acc = (acc, st) := by
  unfold manyA
  cases m with
  | zero => simp [many]
  | succ m =>
    have hb : st.2 = true := by
      cases hb : st.2
      · exact absurd ⟨by omega, hb⟩ h
      · rfl
    unfold many
    rw [if_pos hb]
    simp
theorem many_all {α : Type} (f : St → α × St) (P : α → Prop) (h : ∀ st, P (f st).1) : ∀ n st, ∀ x ∈ (many f n st).1, P x := by
  intro n
  induction n with
  | zero => intro st x hx; simp [many] at hx
  | succ n ih =>
    intro st x hx
    unfold many at hx
    split at hx
    · simp at hx
    · rcases List.mem_cons.1 hx with rfl | hx
      · exact h st
      · exact ih _ x hx

def sText (st : St) : ByteArray × St := if (textF st.1 2000).2.2 ≠ 0 then (⟨#[]⟩, (st.1, true)) else (⟨(textF st.1 2000).1.toArray⟩, (st.1.drop (textF st.1 2000).2.1, st.2))
def sNum (most : Nat) (st : St) : Nat × St := if (uintF st.1).2.2 ≠ 0 ∨ most < (uintF st.1).1 then (0, (st.1, true)) else ((uintF st.1).1, (st.1.drop (uintF st.1).2.1, st.2))
def sByte (st : St) : UInt8 × St := match st.1 with
  | [] => (9, ([], true))
  | c :: r => (c, (r, st.2))
def sFld (st : St) : Fld × St :=
  let t := sText st
  let b := sByte t.2
  if b.1 = 0 then ((t.1, false, unzig (uintF b.2.1).1, ⟨#[]⟩), (b.2.1.drop (uintF b.2.1).2.1, if (uintF b.2.1).2.2 = 0 then b.2.2 else true))
  else if b.1 = 1 then ((t.1, true, 0, (sText b.2).1), (sText b.2).2)
  else ((t.1, false, 0, ⟨#[]⟩), (b.2.1, true))
def sEv (st : St) : Ev × St :=
  let t := sText st
  let v := sNum 1073741824 t.2
  let k := sNum 16 v.2
  let f := many sFld k.1 k.2
  ((t.1, (v.1 : Int), f.1), f.2)
def sBat (l : List UInt8) : Bat × St :=
  let s := sText (l, false)
  let k := sText s.2
  let f := sNum 1099511627776 k.2
  let n := sNum 16 f.2
  let e := many sEv n.1 n.2
  ((s.1, k.1, (f.1 : Int), e.1), e.2)
/-- P1.7, by the document's answer -/
def refBatF (l : List UInt8) : Bat × Nat := if (sBat l).2.2 = true ∨ (sBat l).2.1 ≠ [] ∨ putB (sBat l).1 ≠ (l, 0) then ((⟨#[]⟩, ⟨#[]⟩, 0, []), 11) else ((sBat l).1, 0)

/-! lengths -/
theorem textF_facts0 (l : List UInt8) (most : Int) : (textF l most).2.1 ≤ l.length ∧ (textF l most).2.2 ≤ 12 := by
  have h := uintF_facts l
  unfold textF
  split
  · exact ⟨by dsimp only; omega, by dsimp only; omega⟩
  · split
    · exact ⟨by dsimp only; omega, by dsimp only; omega⟩
    · split
      · exact ⟨by dsimp only; omega, by dsimp only; omega⟩
      · refine ⟨?_, by dsimp only; omega⟩
        rename_i h1 h2 h3
        dsimp only; omega
theorem textF_len0 (l : List UInt8) (most : Int) (hm : most ≤ 1000000) : (textF l most).1.length ≤ 1000000 := by
  unfold textF
  split
  · simp
  · split
    · simp
    · split
      · simp
      · rename_i h1 h2 h3
        dsimp only
        rw [List.length_take]
        omega
theorem sText_len (st : St) : (sText st).2.1.length ≤ st.1.length ∧ (sText st).1.size ≤ 1000000 := by
  have h := textF_len0 st.1 2000 (by omega)
  unfold sText
  split
  · exact ⟨Nat.le_refl _, by show (0 : Nat) ≤ _; omega⟩
  · dsimp only
    refine ⟨by rw [List.length_drop]; omega, ?_⟩
    show (textF st.1 2000).1.toArray.size ≤ _
    rw [List.size_toArray]
    exact h
theorem sNum_len (most : Nat) (st : St) : (sNum most st).2.1.length ≤ st.1.length ∧ (sNum most st).1 ≤ most := by
  unfold sNum
  split
  · exact ⟨Nat.le_refl _, Nat.zero_le _⟩
  · dsimp only
    exact ⟨by rw [List.length_drop]; omega, by omega⟩
theorem sByte_len (st : St) : (sByte st).2.1.length ≤ st.1.length := by
  unfold sByte
  split
  · simp
  · rename_i c r h
    rw [h]; simp
theorem unzig_I (n : Nat) (h : n ≤ 18446744073709551615) : -9223372036854775808 ≤ unzig n ∧ unzig n ≤ 9223372036854775807 := by
  unfold unzig
  split <;> omega
theorem sFld_len (st : St) : (sFld st).2.1.length ≤ st.1.length ∧ (sFld st).1.1.size ≤ 1000000 ∧ fldI (sFld st).1 ∧ (sFld st).1.2.2.2.size ≤ 1000000 := by
  have h1 := sText_len st
  have h2 := sByte_len (sText st).2
  have h3 := sText_len (sByte (sText st).2).2
  have h4 := uintF_facts (sByte (sText st).2).2.1
  have h5 := unzig_I (uintF (sByte (sText st).2).2.1).1 (by omega)
  unfold sFld fldI
  dsimp only
  split
  · exact ⟨by dsimp only; rw [List.length_drop]; omega, h1.2, h5, by show (0 : Nat) ≤ _; omega⟩
  · split
    · exact ⟨by dsimp only; omega, h1.2, by dsimp only; omega, h3.2⟩
    · exact ⟨by dsimp only; omega, h1.2, by dsimp only; omega, by show (0 : Nat) ≤ _; omega⟩
theorem many_len {α : Type} (f : St → α × St) (h : ∀ st, (f st).2.1.length ≤ st.1.length) : ∀ n st, (many f n st).2.1.length ≤ st.1.length ∧ (many f n st).1.length ≤ n := by
  intro n
  induction n with
  | zero => intro st; simp [many]
  | succ n ih =>
    intro st
    unfold many
    split
    · simp
    · have := ih (f st).2
      have := h st
      dsimp only
      simp only [List.length_cons]
      omega

/-! what was laid is read -/
theorem sText_put (s : ByteArray) (hs : s.size ≤ 2000) (r : List UInt8) (b : Bool) : sText (putT (bl s) ++ r, b) = (s, (r, b)) := by
  unfold sText
  dsimp only
  rw [textF_put s 2000 (by omega) (by omega) r]
  rw [if_neg (by simp)]
  simp only [List.drop_left]
  rw [mk_bl]
theorem sNum_put (n most : Nat) (hn : n ≤ most) (hm : n ≤ 18446744073709551615) (r : List UInt8) (b : Bool) : sNum most (putU n ++ r, b) = (n, (r, b)) := by
  unfold sNum
  dsimp only
  rw [uintF_putU n hm r, if_neg (by simp; omega)]
  simp
theorem sFld_put (f : Fld) (h : fldOk f = true) (hi : fldI f) (r : List UInt8) : sFld (putFld f ++ r, false) = (f, (r, false)) := by
  obtain ⟨n, t, i, s⟩ := f
  unfold fldOk nameOk at h
  dsimp only at h
  unfold fldI at hi
  dsimp only at hi
  unfold sFld putFld
  dsimp only
  cases t
  · simp at h
    rw [List.append_assoc, sText_put n (by omega)]
    obtain rfl : s = ⟨#[]⟩ := h.2
    simp only [Bool.false_eq_true, if_false, List.cons_append, sByte]
    have hu := uintF_putU (zig i) (zig_le i hi.1 hi.2) r
    rw [show putI i ++ r = putU (zig i) ++ r from rfl, hu]
    simp only [if_true]
    rw [unzig_zig', List.drop_left]
  · simp at h
    rw [List.append_assoc, sText_put n (by omega)]
    obtain ⟨h1, h2, h3⟩ := h
    subst h3
    simp only [if_true, List.cons_append, sByte]
    rw [if_neg (by decide), sText_put s (by omega)]
theorem many_put {α : Type} (f : St → α × St) (g : α → List UInt8) (l : List α) (h : ∀ x ∈ l, ∀ r, f (g x ++ r, false) = (x, (r, false))) (r : List UInt8) : many f l.length (l.flatMap g ++ r, false) = (l, (r, false)) := by
  induction l with
  | nil => rfl
  | cons x l ih =>
    rw [List.length_cons, List.flatMap_cons, List.append_assoc]
    unfold many
    rw [h x (by simp), if_neg (by simp)]
    dsimp only
    rw [ih (fun y hy => h y (by simp [hy]))]
theorem sEv_put (e : Ev) (h : evOk e = true) (hi : evI e) (r : List UInt8) : sEv (putEv e ++ r, false) = (e, (r, false)) := by
  obtain ⟨h1, h2⟩ := evOk_fields h
  obtain ⟨h3, h4⟩ := evOk_head h
  obtain ⟨t, v, fs⟩ := e
  dsimp only at h1 h2 h3 h4
  unfold sEv putEv
  simp only [List.append_assoc]
  rw [sText_put t (by omega)]
  dsimp only
  rw [sNum_put v.toNat _ (by omega) (by omega)]
  dsimp only
  rw [sNum_put fs.length 16 h1 (by omega)]
  dsimp only
  rw [many_put sFld putFld fs (fun f hf r => sFld_put f (h2 f hf) (hi f hf) r)]
  dsimp only
  rw [Int.toNat_of_nonneg h4.1]
theorem sBat_put (x : Bat) (h : headOk x = true) (h' : x.2.2.2.all evOk = true) (hi : batI x) : sBat (putBat x) = (x, ([], false)) := by
  obtain ⟨h1, h2, h3, h4⟩ := headOk_parts h
  rw [List.all_eq_true] at h'
  obtain ⟨s, k, f, es⟩ := x
  dsimp only at h1 h2 h3 h4 h'
  have he := many_put sEv putEv es (fun e he r => sEv_put e (h' e he) (hi e he) r) []
  rw [List.append_nil] at he
  unfold sBat putBat putHead
  simp only [List.append_assoc]
  rw [sText_put s (by omega)]
  dsimp only
  rw [sText_put k (by omega)]
  dsimp only
  rw [sNum_put f.toNat _ (by omega) (by omega)]
  dsimp only
  rw [sNum_put es.length 16 (by omega) (by omega)]
  dsimp only
  rw [he]
  dsimp only
  rw [Int.toNat_of_nonneg h3.1]

/-! numbers are Go's -/
theorem batI_s (l : List UInt8) : batI (sBat l).1 := by
  intro e he
  unfold sBat at he
  dsimp only at he
  refine many_all sEv evI (fun st => ?_) _ _ e he
  intro f hf
  unfold sEv at hf
  dsimp only at hf
  exact many_all sFld fldI (fun st => (sFld_len st).2.2.1) _ _ f hf
theorem rFld_I (st : St) : fldI (rFld st).1 := by
  unfold rFld fldI
  dsimp only
  split
  · dsimp only; omega
  · rename_i c r hr
    have h4 := uintF_facts r
    have h5 := unzig_I (uintF r).1 (by omega)
    split
    · exact h5
    · split <;> (dsimp only; omega)
theorem rFlds_I : ∀ n st, ∀ f ∈ (rFlds n st).1, fldI f := by
  intro n
  induction n with
  | zero => intro st x hx; simp [rFlds] at hx
  | succ n ih =>
    intro st x hx
    unfold rFlds at hx
    split at hx
    · simp at hx
    · rcases List.mem_cons.1 hx with rfl | hx
      · exact rFld_I st
      · exact ih _ x hx
theorem rEvs_I : ∀ n st, ∀ e ∈ (rEvs n st).1, evI e := by
  intro n
  induction n with
  | zero => intro st x hx; simp [rEvs] at hx
  | succ n ih =>
    intro st x hx
    unfold rEvs at hx
    split at hx
    · simp at hx
    · rcases List.mem_cons.1 hx with rfl | hx
      · intro f hf
        unfold rEv at hf
        dsimp only at hf
        exact rFlds_I _ _ f hf
      · exact ih _ x hx
theorem batI_r (l : List UInt8) : batI (rBat l).1 := by
  intro e he
  unfold rBat at he
  dsimp only at he
  exact rEvs_I _ _ e he

theorem refBat_eq (l : List UInt8) : refBatF l = batF l := by
  by_cases h : (rBat l).2.2 = true ∨ putB (rBat l).1 ≠ (l, 0)
  · have hb : batF l = ((⟨#[]⟩, ⟨#[]⟩, 0, []), 11) := by unfold batF; rw [if_pos h]
    by_cases k : (sBat l).2.2 = true ∨ (sBat l).2.1 ≠ [] ∨ putB (sBat l).1 ≠ (l, 0)
    · unfold refBatF; rw [if_pos k, hb]
    · have k2 : putB (sBat l).1 = (l, 0) := by
        by_cases h2 : putB (sBat l).1 = (l, 0)
        · exact h2
        · exact absurd (.inr (.inr h2)) k
      rw [batF_put _ l k2 (batI_s l)] at hb
      simp at hb
  · have h2 : putB (rBat l).1 = (l, 0) := by
      by_cases h2 : putB (rBat l).1 = (l, 0)
      · exact h2
      · exact absurd (.inr h2) h
    obtain ⟨k1, k2, k3, k4⟩ := putB_ok h2
    have hs := sBat_put _ k1 k2 (batI_r l)
    rw [← k3] at hs
    unfold refBatF batF
    rw [if_neg h, hs, if_neg (by simp [h2])]
end Go.Proofs.Ythobhkmphjnlaaa
