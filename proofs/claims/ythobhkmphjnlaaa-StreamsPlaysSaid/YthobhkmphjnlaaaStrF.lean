/- streams in a law: an Index out of blocks of T; the law's own awake, walked. -/
import Derived.Test.YthobhkmphjnlaaaStrE
import Derived.Test.YthobhkmphjnlaaaStrD
namespace Go.Proofs.Ythobhkmphjnlaaa
open Go.RowKit
set_option linter.unusedVariables false
set_option linter.unusedSimpArgs false

/-- block g is an Index that holds x, out of blocks of T -/
def Idx (T : Nat → Prop) (w : World) (g : Nat) (x : Ix) : Prop := ∃ ρ, IxAt w g ρ x.all.length x.all.length x ∧ ∀ k, ρ k ≠ none → T k
theorem Idx.keep {T : Nat → Prop} {w w' : World} {g : Nat} {x : Ix} (h : Idx T w g x) (hk : Keep T w w') : Idx T w' g x := by
  obtain ⟨ρ, h1, h2⟩ := h
  exact ⟨ρ, h1.keep (hk.mono fun k hr _ => h2 k hr), h2⟩
theorem Idx.ext {T : Nat → Prop} {w w' : World} {g : Nat} {x : Ix} (h : Idx T w g x) (hk : Ext w w') : Idx T w' g x := h.keep (hk.keep _)
theorem Idx.mono {T T' : Nat → Prop} {w : World} {g : Nat} {x : Ix} (h : Idx T w g x) (hT : ∀ k, T k → k < w.heap.size → T' k) : Idx T' w g x := by
  obtain ⟨ρ, h1, h2⟩ := h
  refine ⟨ρ, h1, fun k hk => hT k (h2 k hk) ?_⟩
  obtain ⟨va, gs, gk, ms, mk, h⟩ := h1
  exact h.lt k hk
theorem New_idx (w : World) : Calls Try.prog 19 #[] w fun e w' => ∃ g, e = .returned (.pointer (some ⟨g, 0, none⟩)) ∧ Idx (fun k => w.heap.size ≤ k ∧ k < w'.heap.size) w' g ix0 ∧ Ext w w' := by
  refine (New_any w).mono ?_
  rintro e w' ⟨g, rfl, ⟨ρ, h1, h2⟩, hx⟩
  refine ⟨g, rfl, Idx.mono (T := fun k => w.heap.size ≤ k) ⟨ρ, h1, h2⟩ (fun k hk hl => ⟨hk, hl⟩), hx⟩
theorem Try_idx (w : World) (T : Nat → Prop) (g : Nat) (x : Ix) (h : Idx T w g x) (hall : x.all.length ≤ 100000) (s : ByteArray) (hs : s.size ≤ 9223372036854775807) (n : Int) (hn : -9223372036854775808 ≤ n ∧ n ≤ 9223372036854775807) (k : ByteArray) (hk : k.size ≤ 9223372036854775807)
    (S : Nat → Prop) (lv : Value) (l : List Ev) (hl : RdS rE w S lv l) (hle : l.length ≤ 9223372036854775807) (hstr : (x.str s).length ≤ 100000) :
    Calls Try.prog 17 #[.pointer (some ⟨g, 0, none⟩), .string s, .int .i64 n, .string k, lv] w (TryEnd w (tryF x s n k l)) := by
  obtain ⟨ρ, h1, h2⟩ := h
  exact Try_any w g ρ _ _ x h1 hall s hs n hn k hk S lv l hl hle hstr
/-- what Add comes to, of an Index out of blocks of T -/
def AddEndI (T : Nat → Prop) (w : World) (g : Nat) (z : Ix × Nat) (e : Ending) (w' : World) : Prop :=
  e = .returned (.int .i64 ((z.2 : Nat) : Int)) ∧ Idx (fun k => T k ∨ (w.heap.size ≤ k ∧ k < w'.heap.size)) w' g z.1 ∧ Keep (fun k => ¬ T k) w w'
theorem Add_idx (w : World) (T : Nat → Prop) (g : Nat) (x : Ix) (h : Idx T w g x) (hall : x.all.length ≤ 100000) (s : ByteArray) (hs : s.size ≤ 9223372036854775807) (k : ByteArray) (hk : k.size ≤ 9223372036854775807) (f : Int) (hf : -9223372036854775808 ≤ f ∧ f ≤ 9223372036854775807)
    (S : Nat → Prop) (hS : ∀ j, S j → ¬ T j) (ev : Value) (es : List Ev) (he : RdS rE w S ev es) (hle : es.length ≤ 9223372036854775807) (hstr : (x.str s).length ≤ 100000) :
    Calls Try.prog 18 #[.pointer (some ⟨g, 0, none⟩), .agg #[.string s, .string k, .int .i64 f, ev]] w (AddEndI T w g (addF x (s, k, f, es))) := by
  obtain ⟨ρ, h1, h2⟩ := h
  have h3 : ∀ j, ¬ T j → ρ j = none := fun j hj => by
    by_cases h : ρ j = none
    · exact h
    · exact absurd (h2 j h) hj
  refine (Add_any w g ρ x h1 hall s hs k hk f hf S (fun j hj => h3 j (hS j hj)) ev es he hle hstr).mono ?_
  rintro e w' ⟨rfl, ρ', k1, k2, k3⟩
  refine ⟨rfl, Idx.mono (T := fun k => T k ∨ w.heap.size ≤ k) ⟨ρ', k1, fun j hj => ?_⟩ (fun j hj hl => hj.imp id fun h => ⟨h, hl⟩), k2.mono fun j hj _ => h3 j hj⟩
  rcases k3 j hj with h | h
  · exact .inl (h2 j h)
  · exact .inr h
theorem Len_idx (w : World) (T : Nat → Prop) (g : Nat) (x : Ix) (h : Idx T w g x) (hall : x.all.length ≤ 1000000) :
    Calls Try.prog 20 #[.pointer (some ⟨g, 0, none⟩)] w fun e w' => e = .returned (.int .i64 (x.all.length : Int)) ∧ w = w' := by
  obtain ⟨ρ, h1, h2⟩ := h
  exact Len_any w g ρ _ _ x h1 hall
theorem Version_idx (w : World) (T : Nat → Prop) (g : Nat) (x : Ix) (h : Idx T w g x) (s : ByteArray) (hs : s.size ≤ 9223372036854775807) :
    Calls Try.prog 16 #[.pointer (some ⟨g, 0, none⟩), .string s] w fun e w' => e = .returned (.int .i64 ((x.str s).length : Int)) ∧ w = w' := by
  obtain ⟨ρ, h1, h2⟩ := h
  exact Version_any w g ρ _ _ x h1 s hs
theorem Keyed_idx (w : World) (T : Nat → Prop) (g : Nat) (x : Ix) (h : Idx T w g x) (k : ByteArray) (hk : k.size ≤ 9223372036854775807) :
    Calls Try.prog 21 #[.pointer (some ⟨g, 0, none⟩), .string k] w (KeyEnd w (keyF x k)) := by
  obtain ⟨ρ, h1, h2⟩ := h
  exact Keyed_any w g ρ _ _ x h1 k hk

def opened : Ev := (⟨#[111, 112, 101, 110, 101, 100]⟩, 1, [])
set_option maxRecDepth 100000 in
set_option maxHeartbeats 400000 in
theorem Opened_any (w : World) : Calls Try.prog 41 #[] w fun e w' => e = .returned (.agg #[.string ⟨#[111, 112, 101, 110, 101, 100]⟩, .int .i64 1, .slice none 0 0]) ∧ Ext w w' := by
  go_enter Try.func41, Try.ntmps41
  go_wp2_with fail
  exact bodyPost_ret (v := .agg #[.string ⟨#[111, 112, 101, 110, 101, 100]⟩, .int .i64 1, .slice none 0 0]) (by simp [results, Try.results41, go_sem]) rfl ⟨rfl, (Ext.refl w).alloc _⟩
end Go.Proofs.Ythobhkmphjnlaaa
