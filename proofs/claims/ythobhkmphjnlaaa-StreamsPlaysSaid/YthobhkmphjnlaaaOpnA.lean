/- How the data that come in are read: a []byte, a text, and what the bound of the second form gives. -/
import Derived.Test.YthobhkmphjnlaaaRows
import Derived.Test.YthobhkmphjnlaaaOpenA
import Derived.Deep.Slices
import Derived.Deep.CondSized
import Derived.ChangeSame
import Derived.SliceStrings
namespace Go.Proofs.Ythobhkmphjnlaaa
open Go.ChangeShapes Go.WideShapes Go.ChangeAt Go.RowKit Go.Deep
set_option linter.unusedVariables false
set_option linter.unusedSimpArgs false

theorem list_of {α : Type} (n : Nat) (P : Nat → α → Prop) (h : ∀ i, i < n → ∃ x, P i x) : ∃ l : List α, l.length = n ∧ ∀ i (hi : i < l.length), P i l[i] := by
  induction n with
  | zero => exact ⟨[], rfl, fun i hi => absurd hi (by simp)⟩
  | succ n ih =>
    obtain ⟨l, hl, hp⟩ := ih fun i hi => h i (by omega)
    obtain ⟨x, hx⟩ := h n (by omega)
    refine ⟨l ++ [x], by simp [hl], fun i hi => ?_⟩
    by_cases hi' : i < l.length
    · rw [List.getElem_append_left hi']; exact hp i hi'
    · have hin : i = l.length := by simp at hi; omega
      subst hin
      rw [List.getElem_append_right (Nat.le_refl _)]
      simp only [Nat.sub_self, List.getElem_cons_zero]
      rw [hl]; exact hx

/-- a []byte, and how much of the datum it is -/
theorem read_B {H : Type} {enc : TypeId × Value → H} {W : World} {fuel : Nat} {v : Value} {d : DataW H} {ps : List MemPlace} (h : DataW.trod enc Try.prog W 0 (fun _ => true) true fuel 54 [v] = some (d, ps)) :
    ∃ l : List UInt8, RdB W v l ∧ (l = [] ∨ ∃ el sp, d = .slice el sp ∧ el.length = l.length) := by
  rcases open_ints Try.underlying54 Try.underlying5 cellsU8 h with ⟨hcs, _⟩ | ⟨x, len0, cap0, zs, hcs, _, hl, hm, hz, hx, hcell, hwz⟩
  · simp only [List.cons.injEq, and_true] at hcs
    subst hcs
    exact ⟨[], Rd.nil _ _, .inl rfl⟩
  · simp only [List.cons.injEq, and_true] at hcs
    subst hcs
    simp only [if_true] at hz
    have hzl : (zs.take len0).length = len0 := by rw [List.length_take]; omega
    refine ⟨(zs.take len0).map fun n => UInt8.ofNat n.toNat, ?_, .inr ⟨_, _, (Prod.mk.inj hx).1, by simp [lits]⟩⟩
    have e := bvs_of (zs.take len0) (fun n hn => hwz n (List.mem_of_mem_take hn))
    unfold RdB
    rw [e, List.length_map, hzl]
    refine ⟨_, _, rfl, hl, hm, by rw [List.length_map, hzl, Nat.mul_one], fun hn => ?_⟩
    obtain ⟨g, o, spot⟩ := x
    have h0 := hcell 0 (by omega)
    have hspot : spot = none := by simpa [Addr.add] using World.cell?_spot h0
    subst hspot
    refine ⟨g, o, rfl, ?_, fun j hj => ?_⟩
    · have := World.block_lt_of_cell? _ _ h0
      simpa [Addr.add] using this
    · have hj' : j < zs.length := by omega
      have hcj := hcell j hj'
      rw [show (⟨g, o, none⟩ : Addr).add j = ⟨g, o + j, none⟩ from by unfold Addr.add; split <;> simp_all] at hcj
      rw [hcj, List.getElem?_map, List.getElem?_take, if_pos (by omega), List.getElem?_eq_getElem hj']
      simp [List.getD_eq_getElem?_getD, hj']

theorem cellsBs : Try.prog.cellsOf 54 = 1 := by kernel_rfl
/-! ### the bound of the second form -/

theorem bulk_one {H : Type} (d : DataW H) : 1 ≤ Rows.uptoBulk d := by
  cases d with
  | lit l => cases l <;> simp [Rows.uptoBulk]
  | _ => simp [Rows.uptoBulk]
theorem bulk_mem {H : Type} {l : List (DataW H)} {d : DataW H} (h : d ∈ l) : Rows.uptoBulk d ≤ Rows.uptoBulkAll l := by
  induction l with
  | nil => simp at h
  | cons x r ih =>
    simp only [Rows.uptoBulkAll]
    rcases List.mem_cons.1 h with rfl | h
    · omega
    · have := ih h; omega
theorem bulk_len {H : Type} (l : List (DataW H)) : l.length ≤ Rows.uptoBulkAll l := by
  induction l with
  | nil => simp
  | cons x r ih => have := bulk_one x; simp only [Rows.uptoBulkAll, List.length_cons]; omega
theorem bulk_get {H : Type} {l : List (DataW H)} {i : Nat} {d : DataW H} (h : l[i]? = some d) : Rows.uptoBulk d ≤ Rows.uptoBulkAll l := bulk_mem (List.mem_of_getElem? h)
theorem bulk_slice {H : Type} (e s : List (DataW H)) : e.length ≤ Rows.uptoBulk (.slice e s) ∧ Rows.uptoBulkAll e ≤ Rows.uptoBulk (.slice e s) := by
  have := bulk_len e
  simp only [Rows.uptoBulk]; omega
theorem bulk_agg {H : Type} (p : List (DataW H)) : Rows.uptoBulkAll p ≤ Rows.uptoBulk (.agg p) := by
  simp only [Rows.uptoBulk]; omega
theorem bulk_str {H : Type} (b : List UInt8) : b.length ≤ Rows.uptoBulk (H := H) (.lit (.string b)) := by
  simp only [Rows.uptoBulk]; omega
theorem bulk_bound {H : Type} {l : List (DataW H)} (hk : Rows.uptoSmall H l = true) {i : Nat} {d : DataW H} (h : l[i]? = some d) : Rows.uptoBulk d ≤ 1048576 :=
  Nat.le_trans (bulk_get h) (of_decide_eq_true hk)

theorem bulk_B {H : Type} {d : DataW H} {l : List UInt8} {n : Nat} (h : l = [] ∨ ∃ el sp, d = .slice el sp ∧ el.length = l.length) (hb : Rows.uptoBulk d ≤ n) : l.length ≤ n := by
  rcases h with rfl | ⟨el, sp, rfl, he⟩
  · simp
  · have := (bulk_slice el sp).1; omega
section
variable {H : Type} {enc : TypeId × Value → H} {W : World} {base : Nat} {v : Value} {d : DataW H} {ps : List MemPlace}
set_option maxRecDepth 100000 in
theorem arg_B (hval : Value.okWide Try.prog W .any base 54 v) (h : ∃ fuel, DataW.trod enc Try.prog W 0 (fun _ => true) true fuel 54 v.cells.toList = some (d, ps)) :
    ∃ l : List UInt8, RdB W v l ∧ ∀ n, Rows.uptoBulk d ≤ n → l.length ≤ n := by
  obtain ⟨a0, len0, cap0, rfl⟩ := okWide_slice Try.underlying54 hval
  obtain ⟨fuel, hf⟩ := h
  obtain ⟨l, h1, h2⟩ := read_B (v := .slice a0 len0 cap0) hf
  exact ⟨l, h1, fun n hn => bulk_B h2 hn⟩
theorem arg_S {s : ByteArray} (hd : d = .lit (.string s.data.toList)) (n : Nat) (hn : Rows.uptoBulk d ≤ n) : s.size ≤ n := by
  subst hd
  have := bulk_str (H := H) s.data.toList
  rw [Array.length_toList] at this
  exact Nat.le_trans this hn
end
end Go.Proofs.Ythobhkmphjnlaaa
