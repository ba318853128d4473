/- Events in memory: fields, events, batches, by shape; codec.name, codec.Check and the reference's, walked. -/
import Derived.Test.YthobhkmphjnlaaaRdr
import Derived.Test.YthobhkmphjnlaaaEvL
import Derived.Outline
import Derived.Deep.QuietTactic
import Derived.BigQuiet
namespace Go.Proofs.Ythobhkmphjnlaaa
open Go.RowKit
set_option linter.unusedVariables false
set_option linter.unusedSimpArgs false

def rF : Rdr Fld := rPair rS (rPair rBo (rPair rI rS))
def rE : Rdr Ev := rPair rS (rPair rI (rSl rF))
def rB : Rdr Bat := rPair rS (rPair rS (rPair rI (rSl rE)))
theorem rF_size : rF.size = 4 := rfl
theorem rE_size : rE.size = 3 := rfl

section
variable {w : World} {S : Nat → Prop} {v : Value}
theorem rF_cells {cs : List Value} {f : Fld} (h : rF.rd w S cs f) : cs = [.string f.1, .bool f.2.1, .int .i64 f.2.2.1, .string f.2.2.2] ∧ f.1.size ≤ 9223372036854775807 ∧ fldI f ∧ f.2.2.2.size ≤ 9223372036854775807 := by
  obtain ⟨c1, c2, rfl, ⟨rfl, h1⟩, c3, c4, rfl, h2, c5, c6, rfl, ⟨rfl, h3⟩, ⟨rfl, h4⟩⟩ := h
  have h2 : c3 = [.bool f.2.1] := h2
  subst h2
  exact ⟨rfl, h1, h3, h4⟩
theorem rE_cells {cs : List Value} {e : Ev} (h : rE.rd w S cs e) : ∃ fv, cs = [.string e.1, .int .i64 e.2.1, fv] ∧ e.1.size ≤ 9223372036854775807 ∧ (-9223372036854775808 ≤ e.2.1 ∧ e.2.1 ≤ 9223372036854775807) ∧ RdS rF w S fv e.2.2 := by
  obtain ⟨c1, c2, rfl, ⟨rfl, h1⟩, c3, c4, rfl, ⟨rfl, h2⟩, h3⟩ := h
  obtain ⟨fv, gs, e4, h4⟩ := id h3
  subst e4
  exact ⟨fv, rfl, h1, h2, h3⟩
theorem RdS.atF {fs : List Fld} (h : RdS rF w S v fs) (i : Nat) (hi : i < fs.length) :
    ∃ g o cap, v = .slice (some ⟨g, o, none⟩) fs.length cap ∧ g < w.heap.size ∧ S g ∧ w.cell? ⟨g, o + i * 4, none⟩ = some (.string fs[i].1) ∧ w.cell? ⟨g, o + i * 4 + 1, none⟩ = some (.bool fs[i].2.1) ∧
      w.cell? ⟨g, o + i * 4 + 2, none⟩ = some (.int .i64 fs[i].2.2.1) ∧ w.cell? ⟨g, o + i * 4 + 3, none⟩ = some (.string fs[i].2.2.2) ∧ fs[i].1.size ≤ 9223372036854775807 ∧ fldI fs[i] ∧ fs[i].2.2.2.size ≤ 9223372036854775807 := by
  obtain ⟨g, o, cap, cs, rfl, hg, hS, _, hc, hr⟩ := h.at i hi
  obtain ⟨rfl, h1, h2, h3⟩ := rF_cells hr
  refine ⟨g, o, cap, rfl, hg, hS, hc 0 _ rfl, ?_, ?_, ?_, h1, h2, h3⟩
  · rw [Nat.add_assoc]; exact hc 1 _ rfl
  · rw [Nat.add_assoc]; exact hc 2 _ rfl
  · rw [Nat.add_assoc]; exact hc 3 _ rfl
theorem RdS.atE {es : List Ev} (h : RdS rE w S v es) (i : Nat) (hi : i < es.length) :
    ∃ g o cap fv, v = .slice (some ⟨g, o, none⟩) es.length cap ∧ g < w.heap.size ∧ S g ∧ w.cell? ⟨g, o + i * 3, none⟩ = some (.string es[i].1) ∧ w.cell? ⟨g, o + i * 3 + 1, none⟩ = some (.int .i64 es[i].2.1) ∧
      w.cell? ⟨g, o + i * 3 + 2, none⟩ = some fv ∧ es[i].1.size ≤ 9223372036854775807 ∧ (-9223372036854775808 ≤ es[i].2.1 ∧ es[i].2.1 ≤ 9223372036854775807) ∧ RdS rF w S fv es[i].2.2 := by
  obtain ⟨g, o, cap, cs, rfl, hg, hS, _, hc, hr⟩ := h.at i hi
  obtain ⟨fv, rfl, h1, h2, h3⟩ := rE_cells hr
  refine ⟨g, o, cap, fv, rfl, hg, hS, hc 0 _ rfl, ?_, ?_, h1, h2, h3⟩
  · rw [Nat.add_assoc]; exact hc 1 _ rfl
  · rw [Nat.add_assoc]; exact hc 2 _ rfl
end

theorem ret_bool {a b : Bool} (h : a = b) : Ending.returned (.bool a) = .returned (.bool b) := by rw [h]
theorem str_nil {s : ByteArray} (h : s.size = 0) : s.toList = [] := by
  rw [ByteArray.toList_eq]
  exact List.eq_nil_of_length_eq_zero (by rw [Array.length_toList]; exact h)
theorem str_ne {s : ByteArray} (h : s.size ≠ 0) : s.toList.isEmpty = false := by
  rw [ByteArray.toList_eq]
  have : s.data.toList.length ≠ 0 := by rw [Array.length_toList]; exact h
  cases hh : s.data.toList with
  | nil => rw [hh] at this; simp at this
  | cons a l => rfl
theorem str_ne' {s : ByteArray} (h : s.size ≠ 0) : ¬ s.toList = [] := fun e => by
  have := str_ne h
  rw [e] at this
  simp at this

set_option maxRecDepth 100000 in
set_option maxHeartbeats 400000 in
theorem name_any (w : World) (s : ByteArray) (hs : s.size ≤ 9223372036854775807) : Calls Try.prog 52 #[.string s] w fun e w' => e = .returned (.bool (nameOk s)) ∧ w = w' := by
  by_cases h : s.size = 0
  · have h1 := str_nil h
    have HN := hid (show nameOk s = false by unfold nameOk; rw [decide_eq_false]; omega)
    clear h
    go_enter Try.func52, Try.ntmps52
    go_wp2_with fail
    go_ret
    exact ⟨by rw [HN.out]; rfl, rfl⟩
  · have h1 := str_ne h
    have h2 := str_ne' h
    have HN := hid (show nameOk s = decide ((s.size : Int) ≤ 60) by unfold nameOk; rw [Bool.eq_iff_iff]; simp; omega)
    clear h
    go_enter Try.func52, Try.ntmps52
    go_wp2_with fail
    go_ret
    exact ⟨ret_bool HN.out.symm, rfl⟩
end Go.Proofs.Ythobhkmphjnlaaa
