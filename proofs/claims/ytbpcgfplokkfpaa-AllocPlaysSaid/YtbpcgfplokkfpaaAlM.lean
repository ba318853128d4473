/- The map behind calls of which the law asks nothing. -/
import Derived.Test.YtbpcgfplokkfpaaApartA
namespace Go.Proofs.Ytbpcgfplokkfpaa
open Go.RowKit
set_option linter.unusedVariables false
set_option linter.unusedSimpArgs false

/-- the map is there, out of new blocks -/
structure MI (w wr : World) (T : Nat → Prop) (g : Nat) (now last : List Bool) : Prop where
  map : MapAt T wr g now last
  lo : ∀ k, T k → w.heap.size ≤ k
  ext : Ext w wr
section
variable {w wr : World} {T : Nat → Prop} {g : Nat} {now last : List Bool}
theorem MI.exts {w' : World} (h : MI w wr T g now last) (hx : Ext wr w') : MI w w' T g now last := ⟨h.map.ext hx, h.lo, h.ext.trans hx⟩
theorem MI.small (h : MI w wr T g now last) : now.length ≤ 512 := by obtain ⟨vn, vl, h1, h2, h3, h4, h5, -⟩ := h.map; exact h5
theorem MI.take (h : MI w wr T g now last) (n : Nat) (hn : n ≤ 1000000) :
    Calls Try.prog 25 #[.pointer (some ⟨g, 0, none⟩), .int .i64 n] wr fun e w' => ∃ v c now', e = .returned (.tuple #[v, .int .i64 c]) ∧ now'.length = now.length ∧ MI w w' T g now' last := by
  by_cases hf : n ≤ (freeIdx now last).length
  · refine (Take_ok T wr g now last h.map n hf).mono ?_
    rintro e w' ⟨v, rs, rfl, -, -, -, hm, hk⟩
    exact ⟨v, 0, _, rfl, setAll_len _ _, hm, h.lo, h.ext.keepT hk h.lo⟩
  · refine (Take_full T wr g now last h.map n (by omega) (by omega)).mono ?_
    rintro e w' ⟨rfl, hx⟩
    exact ⟨_, _, now, rfl, rfl, h.exts hx⟩
theorem MI.give (h : MI w wr T g now last) {wa : World} (hx : Ext wr wa) {S : Nat → Prop} {lv : Value} {rs : List (Int × Int)} (hr : RdS rRn wa S lv rs) :
    Calls Try.prog 26 #[.pointer (some ⟨g, 0, none⟩), lv] wa fun e w' => ∃ c T' now', e = .returned (.int .i64 c) ∧ now'.length = now.length ∧ MI w w' T' g now' last := by
  refine (Give_any T wa g now last (h.map.ext hx) S lv rs hr).mono ?_
  rintro e w' (⟨n, hn, rfl, hm, hk⟩ | ⟨-, rfl, hx'⟩)
  · exact ⟨_, _, n, rfl, giveF_len hn, hm, Newer.lo h.lo (h.ext.trans hx).size, (h.ext.trans hx).keepT hk h.lo⟩
  · exact ⟨_, T, now, rfl, rfl, h.exts (hx.trans hx')⟩
theorem MI.commit (h : MI w wr T g now last) :
    Calls Try.prog 27 #[.pointer (some ⟨g, 0, none⟩)] wr fun e w' => ∃ T', e = .returned (.tuple #[]) ∧ MI w w' T' g now now := by
  refine (Commit_any T wr g now last h.map).mono ?_
  rintro e w' ⟨rfl, hm, hk⟩
  exact ⟨_, rfl, hm, Newer.lo h.lo h.ext.size, h.ext.keepT hk h.lo⟩
theorem MI.reset (h : MI w wr T g now last) :
    Calls Try.prog 30 #[.pointer (some ⟨g, 0, none⟩)] wr fun e w' => ∃ T', e = .returned (.tuple #[]) ∧ MI w w' T' g last last := by
  refine (Reset_any T wr g now last h.map).mono ?_
  rintro e w' ⟨rfl, hm, hk⟩
  exact ⟨_, rfl, hm, Newer.lo h.lo h.ext.size, h.ext.keepT hk h.lo⟩
end
end Go.Proofs.Ytbpcgfplokkfpaa
