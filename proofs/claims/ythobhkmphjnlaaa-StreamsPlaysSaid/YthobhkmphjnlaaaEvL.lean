/- Events and batches: what they are laid as, what they are read as. Plain laws, no program. -/
import Derived.Test.YthobhkmphjnlaaaLaw
namespace Go.Proofs.Ythobhkmphjnlaaa
set_option linter.unusedVariables false
set_option linter.unusedSimpArgs false

abbrev Fld := ByteArray × (Bool × (Int × ByteArray))
abbrev Ev := ByteArray × (Int × List Fld)
abbrev Bat := ByteArray × (ByteArray × (Int × List Ev))

def bl (s : ByteArray) : List UInt8 := s.data.toList
theorem bl_len (s : ByteArray) : (bl s).length = s.size := by unfold bl; rw [Array.length_toList]; rfl
theorem bl_inj {a b : ByteArray} (h : bl a = bl b) : a = b := by
  apply ByteArray.ext
  exact Array.toList_inj.1 h
theorem bl_mk (l : List UInt8) : bl ⟨l.toArray⟩ = l := by simp [bl]
theorem mk_bl (s : ByteArray) : (⟨(bl s).toArray⟩ : ByteArray) = s := by simp [bl]

/-! ### what may be -/
def nameOk (s : ByteArray) : Bool := decide (1 ≤ s.size ∧ s.size ≤ 60)
def fldOk (f : Fld) : Bool := nameOk f.1 && (if f.2.1 then decide (f.2.2.2.size ≤ 200) && decide (f.2.2.1 = 0) else decide (f.2.2.2.size = 0))
def apartF (fs : List Fld) : Bool := decide ((fs.map (·.1)).Nodup)
def evOk (e : Ev) : Bool := nameOk e.1 && decide (0 ≤ e.2.1 ∧ e.2.1 ≤ 1073741824) && decide (e.2.2.length ≤ 16) && e.2.2.all fldOk && apartF e.2.2
/-- P1.6 -/
def checkF (e : Ev) : Nat := if evOk e then 0 else 13
def headOk (x : Bat) : Bool := nameOk x.1 && decide (x.2.1.size ≤ 60) && decide (0 ≤ x.2.2.1 ∧ x.2.2.1 ≤ 1099511627776) && decide (1 ≤ x.2.2.2.length ∧ x.2.2.2.length ≤ 16)

/-! ### as bytes -/
def putFld (f : Fld) : List UInt8 := putT (bl f.1) ++ (if f.2.1 then 1 :: putT (bl f.2.2.2) else 0 :: putI f.2.2.1)
def putEv (e : Ev) : List UInt8 := putT (bl e.1) ++ (putU e.2.1.toNat ++ (putU e.2.2.length ++ e.2.2.flatMap putFld))
def putHead (x : Bat) : List UInt8 := putT (bl x.1) ++ (putT (bl x.2.1) ++ (putU x.2.2.1.toNat ++ putU x.2.2.2.length))
def putBat (x : Bat) : List UInt8 := putHead x ++ x.2.2.2.flatMap putEv
/-- P1.7: what a batch is laid as, and the error -/
def putB (x : Bat) : List UInt8 × Nat :=
  if headOk x = false then ([], 11)
  else if x.2.2.2.all evOk = false then ([], 13)
  else if 2000 < (putBat x).length then ([], 12)
  else (putBat x, 0)

theorem putT_le (s : List UInt8) : (putT s).length ≤ s.length + 10 := by
  have := putU_len s.length
  unfold putT; rw [List.length_append]; omega
theorem putFld_le (f : Fld) (h : fldOk f = true) : (putFld f).length ≤ 281 := by
  obtain ⟨n, t, i, s⟩ := f
  unfold fldOk nameOk at h
  dsimp only at h
  have h1 := putT_le (bl n)
  have h2 := putT_le (bl s)
  have h3 := putU_len (zig i)
  rw [bl_len] at h1 h2
  unfold putFld
  cases t
  · simp at h
    simp only [List.length_append, Bool.false_eq_true, if_false, List.length_cons, putI]; omega
  · simp at h
    simp only [List.length_append, if_true, List.length_cons]; omega
theorem flat_le {α : Type} (f : α → List UInt8) (m : Nat) (l : List α) (h : ∀ x ∈ l, (f x).length ≤ m) : (l.flatMap f).length ≤ m * l.length := by
  induction l with
  | nil => simp
  | cons x l ih =>
    have h0 := h x (by simp)
    have := ih fun y hy => h y (by simp [hy])
    simp only [List.flatMap_cons, List.length_append, List.length_cons, Nat.mul_add, Nat.mul_one]; omega
theorem evOk_fields {e : Ev} (h : evOk e = true) : e.2.2.length ≤ 16 ∧ ∀ f ∈ e.2.2, fldOk f = true := by
  unfold evOk at h
  simp only [Bool.and_eq_true, decide_eq_true_eq, List.all_eq_true] at h
  exact ⟨h.1.1.2, h.1.2⟩
theorem evOk_head {e : Ev} (h : evOk e = true) : (1 ≤ e.1.size ∧ e.1.size ≤ 60) ∧ 0 ≤ e.2.1 ∧ e.2.1 ≤ 1073741824 := by
  unfold evOk nameOk at h
  simp only [Bool.and_eq_true, decide_eq_true_eq] at h
  exact ⟨h.1.1.1.1, h.1.1.1.2⟩
theorem putEv_le (e : Ev) (h : evOk e = true) : (putEv e).length ≤ 4586 := by
  obtain ⟨h1, h2⟩ := evOk_fields h
  obtain ⟨h3, h4⟩ := evOk_head h
  have f1 := flat_le putFld 281 e.2.2 fun f hf => putFld_le f (h2 f hf)
  have f2 := putT_le (bl e.1)
  rw [bl_len] at f2
  have f3 := putU_len e.2.1.toNat
  have f4 := putU_len e.2.2.length
  unfold putEv
  simp only [List.length_append]
  have : 281 * e.2.2.length ≤ 281 * 16 := Nat.mul_le_mul_left _ h1
  omega
theorem headOk_parts {x : Bat} (h : headOk x = true) : (1 ≤ x.1.size ∧ x.1.size ≤ 60) ∧ x.2.1.size ≤ 60 ∧ (0 ≤ x.2.2.1 ∧ x.2.2.1 ≤ 1099511627776) ∧ 1 ≤ x.2.2.2.length ∧ x.2.2.2.length ≤ 16 := by
  unfold headOk nameOk at h
  simp only [Bool.and_eq_true, decide_eq_true_eq] at h
  exact ⟨h.1.1.1, h.1.1.2, h.1.2, h.2⟩
theorem putHead_le (x : Bat) (h : headOk x = true) : (putHead x).length ≤ 160 := by
  obtain ⟨h1, h2, h3, h4⟩ := headOk_parts h
  have f1 := putT_le (bl x.1)
  have f2 := putT_le (bl x.2.1)
  rw [bl_len] at f1 f2
  have f3 := putU_len x.2.2.1.toNat
  have f4 := putU_len x.2.2.2.length
  unfold putHead
  simp only [List.length_append]
  omega

/-! ### read again: over states (what is left, whether something was wrong) -/
theorem uintF_nil : uintF [] = (0, 0, 10) := rfl
theorem textF_nil (most : Int) : textF [] most = ([], 0, 10) := rfl
abbrev St := List UInt8 × Bool
/-- the code's reader: what it does with what was read -/
def tk (st : St) (n e : Nat) : St := if e = 0 then (st.1.drop n, st.2) else ([], true)
def rText (most : Int) (st : St) : ByteArray × St := (⟨(textF st.1 most).1.toArray⟩, tk st (textF st.1 most).2.1 (textF st.1 most).2.2)
def numE (most : Nat) (l : List UInt8) : Nat := if most < (uintF l).1 then 12 else (uintF l).2.2
def rNum (most : Nat) (st : St) : Nat × St := (if (tk st (uintF st.1).2.1 (numE most st.1)).2 then 0 else (uintF st.1).1, tk st (uintF st.1).2.1 (numE most st.1))
def rFld (st : St) : Fld × St :=
  let t := rText 60 st
  match t.2.1 with
  | [] => ((t.1, false, 0, ⟨#[]⟩), (t.2.1, true))
  | c :: r =>
    if c = 0 then ((t.1, false, unzig (uintF r).1, ⟨#[]⟩), tk t.2 (1 + (uintF r).2.1) (uintF r).2.2)
    else if c = 1 then ((t.1, true, 0, (rText 200 (r, t.2.2)).1), (rText 200 (r, t.2.2)).2)
    else ((t.1, false, 0, ⟨#[]⟩), (t.2.1, true))
def rFlds : Nat → St → List Fld × St
  | 0, st => ([], st)
  | n + 1, st => if st.2 then ([], st) else ((rFld st).1 :: (rFlds n (rFld st).2).1, (rFlds n (rFld st).2).2)
def rEv (st : St) : Ev × St :=
  let t := rText 60 st
  let v := rNum 1073741824 t.2
  let k := rNum 16 v.2
  let f := rFlds k.1 k.2
  ((t.1, (v.1 : Int), f.1), f.2)
def rEvs : Nat → St → List Ev × St
  | 0, st => ([], st)
  | n + 1, st => if st.2 then ([], st) else ((rEv st).1 :: (rEvs n (rEv st).2).1, (rEvs n (rEv st).2).2)
def rBat (l : List UInt8) : Bat × St :=
  let s := rText 60 (l, false)
  let k := rText 60 s.2
  let f := rNum 1099511627776 k.2
  let n := rNum 16 f.2
  let e := rEvs n.1 n.2
  ((s.1, k.1, (f.1 : Int), e.1), e.2)

/-! what was laid is read -/
theorem textF_put (s : ByteArray) (most : Int) (hs : (s.size : Int) ≤ most) (h2 : s.size ≤ 18446744073709551615) (r : List UInt8) : textF (putT (bl s) ++ r) most = (bl s, (putT (bl s)).length, 0) := by
  have hl := bl_len s
  have hu := uintF_putU (bl s).length (by omega) (bl s ++ r)
  unfold textF putT
  rw [List.append_assoc, hu]
  simp only [ne_eq, not_true_eq_false, if_false]
  rw [if_neg (by omega), if_neg (by simp), List.drop_left, List.take_left, List.length_append]
theorem rText_put (s : ByteArray) (most : Int) (hs : (s.size : Int) ≤ most) (h2 : s.size ≤ 18446744073709551615) (r : List UInt8) (b : Bool) : rText most (putT (bl s) ++ r, b) = (s, (r, b)) := by
  unfold rText tk
  dsimp only
  rw [textF_put s most hs h2 r]
  simp only [if_pos, List.drop_left]
  rw [mk_bl]
theorem rNum_put (n most : Nat) (hn : n ≤ most) (hm : n ≤ 18446744073709551615) (r : List UInt8) : rNum most (putU n ++ r, false) = (n, (r, false)) := by
  have h1 : numE most (putU n ++ r) = 0 := by
    unfold numE
    rw [uintF_putU n hm r]
    dsimp only
    rw [if_neg (by omega)]
  unfold rNum
  dsimp only
  rw [h1, uintF_putU n hm r]
  simp [tk]
theorem unzig_zig' (n : Int) : unzig (zig n) = n := by
  unfold unzig zig
  by_cases h : 0 ≤ n
  · rw [if_pos h, if_pos (by omega)]; omega
  · rw [if_neg h, if_neg (by omega)]; omega
theorem empty_of_size {s : ByteArray} (h : s.size = 0) : s = ⟨#[]⟩ := by
  apply ByteArray.ext
  exact Array.eq_empty_of_size_eq_zero h
/-- a field's number is one of Go's -/
def fldI (f : Fld) : Prop := -9223372036854775808 ≤ f.2.2.1 ∧ f.2.2.1 ≤ 9223372036854775807
theorem rFld_put (f : Fld) (h : fldOk f = true) (hi : fldI f) (r : List UInt8) : rFld (putFld f ++ r, false) = (f, (r, false)) := by
  obtain ⟨n, t, i, s⟩ := f
  unfold fldOk nameOk at h
  dsimp only at h
  unfold fldI at hi
  dsimp only at hi
  unfold rFld putFld
  dsimp only
  cases t
  · simp at h
    rw [List.append_assoc, rText_put n 60 (by omega) (by omega)]
    obtain rfl : s = ⟨#[]⟩ := h.2
    simp only [Bool.false_eq_true, if_false, List.cons_append, if_true]
    have hu := uintF_putU (zig i) (zig_le i hi.1 hi.2) r
    rw [show putI i ++ r = putU (zig i) ++ r from rfl, hu]
    dsimp only
    rw [unzig_zig']
    unfold tk
    rw [if_pos rfl]
    dsimp only
    rw [Nat.add_comm, List.drop_succ_cons, List.drop_left]
  · simp at h
    rw [List.append_assoc, rText_put n 60 (by omega) (by omega)]
    obtain ⟨h1, h2, h3⟩ := h
    subst h3
    simp only [if_true, List.cons_append]
    rw [if_neg (by decide), rText_put s 200 (by omega) (by omega)]
theorem rFlds_put (fs : List Fld) (h : ∀ f ∈ fs, fldOk f = true) (hi : ∀ f ∈ fs, fldI f) (r : List UInt8) : rFlds fs.length (fs.flatMap putFld ++ r, false) = (fs, (r, false)) := by
  induction fs with
  | nil => rfl
  | cons f fs ih =>
    rw [List.length_cons, List.flatMap_cons, List.append_assoc]
    unfold rFlds
    rw [rFld_put f (h f (by simp)) (hi f (by simp)), if_neg (by simp)]
    dsimp only
    rw [ih (fun g hg => h g (by simp [hg])) (fun g hg => hi g (by simp [hg]))]
def evI (e : Ev) : Prop := ∀ f ∈ e.2.2, fldI f
theorem rEv_put (e : Ev) (h : evOk e = true) (hi : evI e) (r : List UInt8) : rEv (putEv e ++ r, false) = (e, (r, false)) := by
  obtain ⟨h1, h2⟩ := evOk_fields h
  obtain ⟨h3, h4⟩ := evOk_head h
  obtain ⟨t, v, fs⟩ := e
  dsimp only at h1 h2 h3 h4
  unfold rEv putEv
  simp only [List.append_assoc]
  rw [rText_put t 60 (by omega) (by omega)]
  dsimp only
  rw [rNum_put v.toNat _ (by omega) (by omega)]
  dsimp only
  rw [rNum_put fs.length 16 h1 (by omega)]
  dsimp only
  rw [rFlds_put fs h2 hi]
  dsimp only
  rw [Int.toNat_of_nonneg h4.1]
theorem rEvs_put (es : List Ev) (h : ∀ e ∈ es, evOk e = true) (hi : ∀ e ∈ es, evI e) (r : List UInt8) : rEvs es.length (es.flatMap putEv ++ r, false) = (es, (r, false)) := by
  induction es with
  | nil => rfl
  | cons f fs ih =>
    rw [List.length_cons, List.flatMap_cons, List.append_assoc]
    unfold rEvs
    rw [rEv_put f (h f (by simp)) (hi f (by simp)), if_neg (by simp)]
    dsimp only
    rw [ih (fun g hg => h g (by simp [hg])) (fun g hg => hi g (by simp [hg]))]
def batI (x : Bat) : Prop := ∀ e ∈ x.2.2.2, evI e
theorem rBat_put (x : Bat) (h : headOk x = true) (h' : x.2.2.2.all evOk = true) (hi : batI x) : rBat (putBat x) = (x, ([], false)) := by
  obtain ⟨h1, h2, h3, h4⟩ := headOk_parts h
  rw [List.all_eq_true] at h'
  obtain ⟨s, k, f, es⟩ := x
  dsimp only at h1 h2 h3 h4 h'
  have he := rEvs_put es h' hi []
  rw [List.append_nil] at he
  unfold rBat putBat putHead
  simp only [List.append_assoc]
  rw [rText_put s 60 (by omega) (by omega)]
  dsimp only
  rw [rText_put k 60 (by omega) (by omega)]
  dsimp only
  rw [rNum_put f.toNat _ (by omega) (by omega)]
  dsimp only
  rw [rNum_put es.length 16 (by omega) (by omega)]
  dsimp only
  rw [he]
  dsimp only
  rw [Int.toNat_of_nonneg h3.1]
theorem putB_ok {x : Bat} {b : List UInt8} (h : putB x = (b, 0)) : headOk x = true ∧ x.2.2.2.all evOk = true ∧ b = putBat x ∧ b.length ≤ 2000 := by
  unfold putB at h
  by_cases h1 : headOk x = false
  · rw [if_pos h1] at h; simp at h
  rw [if_neg h1] at h
  by_cases h2 : x.2.2.2.all evOk = false
  · rw [if_pos h2] at h; simp at h
  rw [if_neg h2] at h
  by_cases h3 : 2000 < (putBat x).length
  · rw [if_pos h3] at h; simp at h
  rw [if_neg h3] at h
  simp only [Prod.mk.injEq, and_true] at h
  exact ⟨by simpa using h1, by simpa using h2, h.symm, by rw [← h]; omega⟩
/-- P1.7: the batch that bytes are -/
def batF (b : List UInt8) : Bat × Nat := if (rBat b).2.2 = true ∨ putB (rBat b).1 ≠ (b, 0) then ((⟨#[]⟩, ⟨#[]⟩, 0, []), 11) else ((rBat b).1, 0)
theorem batF_put (x : Bat) (b : List UInt8) (h : putB x = (b, 0)) (hi : batI x) : batF b = (x, 0) := by
  obtain ⟨h1, h2, rfl, h4⟩ := putB_ok h
  unfold batF
  rw [rBat_put x h1 h2 hi]
  rw [if_neg (by simp [h])]

/-! ### how the code looks at fields: one by one, each against those ahead of it -/
def clash (fs : List Fld) (i : Nat) (n : ByteArray) (m : Nat) : Bool := (List.range m).all fun j => match fs[j]? with | some g => decide (n ≠ g.1) | none => true
def okTo (ok : Bool) (fs : List Fld) : Nat → Bool
  | 0 => ok
  | i + 1 => okTo ok fs i && (match fs[i]? with | some f => clash fs i f.1 (min i 16) && fldOk f | none => true)
theorem clash_succ (fs : List Fld) (i : Nat) (n : ByteArray) (m : Nat) (h : m < fs.length) : clash fs i n (m + 1) = (clash fs i n m && decide (n ≠ fs[m].1)) := by
  unfold clash
  rw [List.range_succ, List.all_append]
  simp [h]
theorem okTo_succ (ok : Bool) (fs : List Fld) (i : Nat) (h : i < fs.length) : okTo ok fs (i + 1) = (okTo ok fs i && (clash fs i fs[i].1 (min i 16) && fldOk fs[i])) := by
  simp [okTo, h]
theorem okTo_iff (ok : Bool) (fs : List Fld) : ∀ i, i ≤ fs.length → (okTo ok fs i = true ↔ ok = true ∧ ∀ k (hk : k < i) (hk' : k < fs.length), clash fs k fs[k].1 (min k 16) = true ∧ fldOk fs[k] = true) := by
  intro i
  induction i with
  | zero => intro _; simp [okTo]
  | succ i ih =>
    intro h
    rw [okTo_succ ok fs i (by omega), Bool.and_eq_true, ih (by omega), Bool.and_eq_true]
    constructor
    · rintro ⟨⟨h1, h2⟩, h3⟩
      refine ⟨h1, fun k hk hk' => ?_⟩
      by_cases e : k = i
      · subst e; exact h3
      · exact h2 k (by omega) hk'
    · rintro ⟨h1, h2⟩
      exact ⟨⟨h1, fun k hk hk' => h2 k (by omega) hk'⟩, h2 i (by omega) (by omega)⟩
theorem clash_iff (fs : List Fld) (i : Nat) (n : ByteArray) (m : Nat) (hm : m ≤ fs.length) : clash fs i n m = true ↔ ∀ j (hj : j < m) (hj' : j < fs.length), n ≠ fs[j].1 := by
  unfold clash
  rw [List.all_eq_true]
  constructor
  · intro h j hj hj'
    have := h j (List.mem_range.2 hj)
    simpa [hj'] using this
  · intro h j hj
    have hj := List.mem_range.1 hj
    have hj' : j < fs.length := by omega
    simpa [hj'] using h j hj hj'
theorem nodup_iff (fs : List Fld) : (fs.map (·.1)).Nodup ↔ ∀ i j (hi : i < fs.length) (hj : j < fs.length), j < i → fs[i].1 ≠ fs[j].1 := by
  unfold List.Nodup
  rw [List.pairwise_iff_getElem]
  constructor
  · intro h i j hi hj hij e
    have := h j i (by simpa using hj) (by simpa using hi) hij
    simp only [List.getElem_map] at this
    exact this e.symm
  · intro h i j hi hj hij
    simp only [List.length_map] at hi hj
    simp only [List.getElem_map]
    exact fun e => h j i hj hi hij e.symm
/-- the code's answer -/
theorem okTo_evOk (e : Ev) : okTo (nameOk e.1 && (decide (0 ≤ e.2.1) && (decide (e.2.1 ≤ 1073741824) && decide (e.2.2.length ≤ 16)))) e.2.2 e.2.2.length = evOk e := by
  rw [Bool.eq_iff_iff, okTo_iff _ _ _ (Nat.le_refl _)]
  unfold evOk apartF
  simp only [Bool.and_eq_true, decide_eq_true_eq, List.all_eq_true]
  constructor
  · rintro ⟨⟨h1, h2, h3, h4⟩, h5⟩
    refine ⟨⟨⟨⟨h1, h2, h3⟩, h4⟩, fun f hf => ?_⟩, ?_⟩
    · obtain ⟨i, hi, rfl⟩ := List.getElem_of_mem hf
      exact (h5 i hi hi).2
    · rw [nodup_iff]
      intro i j hi hj hij
      have := (clash_iff _ _ _ _ (by omega)).1 (h5 i hi hi).1 j (by omega) hj
      exact this
  · rintro ⟨⟨⟨⟨h1, h2, h3⟩, h4⟩, h5⟩, h6⟩
    rw [nodup_iff] at h6
    refine ⟨⟨h1, h2, h3, h4⟩, fun k hk hk' => ⟨(clash_iff _ _ _ _ (by omega)).2 fun j hj hj' => h6 k j hk' hj' (by omega), h5 _ (List.getElem_mem hk')⟩⟩
end Go.Proofs.Ythobhkmphjnlaaa
