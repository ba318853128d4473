/- Names and Stream, as laws use them. -/
import Derived.Test.YthobhkmphjnlaaaNamA
import Derived.Test.YthobhkmphjnlaaaNamS
import Derived.Test.YthobhkmphjnlaaaStrV
import Derived.Test.YthobhkmphjnlaaaStrX
namespace Go.Proofs.Ythobhkmphjnlaaa
open Go.RowKit
set_option linter.unusedVariables false

theorem Names_idx (w : World) (T : Nat → Prop) (g : Nat) (x : Ix) (h : Idx T w g x) (hall : x.all.length ≤ 1000000) :
    Calls Try.prog 35 #[.pointer (some ⟨g, 0, none⟩)] w fun e w' => ∃ v l, e = .returned v ∧ OwnS rS 9 w' w.heap.size (fun _ => False) v l ∧ NamesAre x l ∧ l.length ≤ x.all.length ∧ Ext w w' := by
  obtain ⟨ρ, h1, h2⟩ := h
  exact Names_any w g ρ _ _ x h1 hall
theorem Stream_idx (w : World) (T : Nat → Prop) (g : Nat) (x : Ix) (h : Idx T w g x) (hall : x.all.length ≤ 1000000) (hfl : ∀ e ∈ x.all, e.2.2.2.2.2.length ≤ 1000000) (s : ByteArray) (hs : s.size ≤ 9223372036854775807) (hpos : ∀ k ∈ x.str s, 0 ≤ k ∧ k < (x.all.length : Int)) (hstr : (x.str s).length ≤ 1000000) (p q : Nat) (hp : p ≤ 9223372036854775807) (hq : q ≤ 9223372036854775807) :
    Calls Try.prog 36 #[.pointer (some ⟨g, 0, none⟩), .string s, .int .i64 p, .int .i64 q] w fun e w' => ∃ v S', e = .returned (.tuple #[v, .int .i64 0]) ∧ OwnS rEntO 71 w' w.heap.size S' v (atF x (((x.str s).drop p).take q)) ∧ (∀ k, S' k → w.heap.size ≤ k ∧ k < w'.heap.size) ∧ Ext w w' := by
  obtain ⟨ρ, h1, h2⟩ := h
  exact Stream_any w g ρ _ _ x h1 hall hfl s hs hpos hstr p q hp hq
theorem All_idx2 (w : World) (T : Nat → Prop) (g : Nat) (x : Ix) (h : Idx T w g x) (hall : x.all.length ≤ 1000000) (hfl : ∀ e ∈ x.all, e.2.2.2.2.2.length ≤ 1000000) (p q : Nat) (hp : p ≤ 9223372036854775807) (hq : q ≤ 9223372036854775807) :
    Calls Try.prog 25 #[.pointer (some ⟨g, 0, none⟩), .int .i64 p, .int .i64 q] w fun e w' => ∃ v S', e = .returned (.tuple #[v, .int .i64 0]) ∧ OwnS rEntO 71 w' w.heap.size S' v ((x.all.drop p).take q) ∧ (∀ k, S' k → w.heap.size ≤ k ∧ k < w'.heap.size) ∧ Ext w w' := by
  obtain ⟨ρ, h1, h2⟩ := h
  exact All_own w g ρ _ _ x h1 hall hfl p q hp hq
end Go.Proofs.Ythobhkmphjnlaaa
