/- blockdev: what an operation comes to on a device that may stop; what a crash may leave. -/
import Derived.Test.YtgbiffpnfpdcoaaBdI
import Derived.Test.YtgbiffpnfpdcoaaSuR
namespace Go.Proofs.Ytgbiffpnfpdcoaa
open Go.RowKit
set_option linter.unusedVariables false
set_option linter.unusedSimpArgs false

/-- not down; with a fuse or without one -/
structure Up (d : Dv) : Prop where
  up : d.down = false
  fuse : -1 ≤ d.fuse
  rng : ∀ n, d.pend n ≠ [] → 0 ≤ n ∧ n < d.safe.length
/-- an image that a crash may leave -/
def Img (d : Dv) (s : Int → Bk) : Prop := ∀ k : Int, 0 ≤ k → k < d.safe.length → s k = d.safe.getD k.toNat zb ∨ s k ∈ d.pend k
/-- nothing pending -/
def Still (d : Dv) : Prop := ∀ n, d.pend n = []
theorem img_crash (d : Dv) (picks : List Int) : Img d (curF (crashF d picks)) := fun k h0 h1 => by
  obtain ⟨j, rfl⟩ : ∃ j : Nat, k = j := ⟨k.toNat, by omega⟩
  exact crash_mem d picks j
theorem crash_up (d : Dv) (picks : List Int) : Up (crashF d picks) ∧ Still (crashF d picks) ∧ (crashF d picks).fuse = -1 ∧ (crashF d picks).safe.length = d.safe.length :=
  ⟨⟨rfl, by show (-1 : Int) ≤ -1; omega, fun n hn => absurd rfl hn⟩, fun _ => rfl, rfl, crash_len _ _⟩
theorem img_still {d : Dv} (h : Still d) {s : Int → Bk} (hs : Img d s) : ∀ k : Int, 0 ≤ k → k < d.safe.length → s k = curF d k := fun k h0 h1 => by
  have hk := hs k h0 h1
  rw [h k] at hk
  unfold curF
  rw [h k]
  rcases hk with e | e
  · rw [e]; rfl
  · cases e
structure Same (d d' : Dv) : Prop where
  safe : d'.safe = d.safe
  pend : d'.pend = d.pend
theorem Same.cur {d d' : Dv} (h : Same d d') (n : Int) : curF d' n = curF d n := by unfold curF; rw [h.safe, h.pend]
theorem Same.img {d d' : Dv} (h : Same d d') {s : Int → Bk} (hs : Img d' s) : Img d s := by unfold Img at *; rw [h.safe, h.pend] at hs; exact hs
theorem Same.still {d d' : Dv} (h : Same d d') (hs : Still d) : Still d' := by unfold Still at *; rw [h.pend]; exact hs
theorem Same.len {d d' : Dv} (h : Same d d') : d'.safe.length = d.safe.length := by rw [h.safe]
theorem Same.refl (d : Dv) : Same d d := ⟨rfl, rfl⟩
theorem Same.trans {a b c : Dv} (h : Same a b) (k : Same b c) : Same a c := ⟨k.safe.trans h.safe, k.pend.trans h.pend⟩

theorem op_up {d : Dv} (h : Up d) {n : Int} (hn : 0 ≤ n ∧ n < d.safe.length) :
    (∃ d', opF d n 0 = (0, d') ∧ Same d d' ∧ Up d' ∧ (d.fuse = -1 → d'.fuse = -1)) ∨ (d.fuse ≠ -1 ∧ ∃ d', opF d n 0 = (2, d') ∧ Same d d' ∧ d'.down = true) := by
  have hf := h.fuse
  by_cases h0 : d.fuse = 0
  · right
    refine ⟨by omega, { d with down := true }, ?_, ⟨rfl, rfl⟩, rfl⟩
    unfold opF
    rw [if_neg (by rw [h.up]; simp), if_neg (by omega), if_neg (by simp), if_pos h0]
  · left
    refine ⟨{ d with fuse := if 0 < d.fuse then d.fuse - 1 else d.fuse, ops := d.ops + 1 }, ?_, ⟨rfl, rfl⟩, ⟨h.up, ?_, h.rng⟩, fun e => ?_⟩
    · unfold opF
      rw [if_neg (by rw [h.up]; simp), if_neg (by omega), if_neg (by simp), if_neg h0]
    · show (-1 : Int) ≤ if 0 < d.fuse then d.fuse - 1 else d.fuse
      split <;> omega
    · show (if 0 < d.fuse then d.fuse - 1 else d.fuse) = -1
      rw [if_neg (by omega), e]
/-- a block more is pending -/
structure Wr (d : Dv) (n : Int) (b : Bk) (d' : Dv) : Prop where
  safe : d'.safe = d.safe
  pend : d'.pend = setP d.pend n (d.pend n ++ [b])
theorem Wr.len {d d' : Dv} {n : Int} {b : Bk} (h : Wr d n b d') : d'.safe.length = d.safe.length := by rw [h.safe]
theorem Wr.cur {d d' : Dv} {n : Int} {b : Bk} (h : Wr d n b d') (j : Int) : curF d' j = if j = n then b else curF d j := by
  unfold curF
  rw [h.safe, h.pend]
  by_cases e : j = n
  · subst e; simp [setP]
  · simp [setP, e]
theorem Wr.img {d d' : Dv} {n : Int} {b : Bk} (h : Wr d n b d') {s : Int → Bk} (hs : Img d' s) : (∃ s0, Img d s0 ∧ (∀ j, j ≠ n → s j = s0 j) ∧ s n = b) ∨ Img d s := by
  unfold Img at hs
  rw [h.safe, h.pend] at hs
  by_cases hb : s n = b
  · left
    refine ⟨fun j => if j = n then d.safe.getD n.toNat zb else s j, fun k h0 h1 => ?_, fun j hj => by simp [hj], hb⟩
    by_cases e : k = n
    · subst e; simp
    · simp only [e, if_false]
      have := hs k h0 h1
      simpa [setP, e] using this
  · right
    intro k h0 h1
    have := hs k h0 h1
    by_cases e : k = n
    · subst e
      simp only [setP, if_true, List.mem_append, List.mem_singleton] at this
      rcases this with e | e | e
      · exact .inl e
      · exact .inr e
      · exact absurd e hb
    · simpa [setP, e] using this
theorem write_up {d : Dv} (h : Up d) {n : Int} (hn : 0 ≤ n ∧ n < d.safe.length) {b : Bk} (hb : b.length = 512) :
    (∃ d', writeF d n b = (0, d') ∧ Wr d n b d' ∧ Up d' ∧ (d.fuse = -1 → d'.fuse = -1)) ∨ (d.fuse ≠ -1 ∧ ∃ d', writeF d n b = (2, d') ∧ Same d d' ∧ d'.down = true) := by
  rcases op_up h hn with ⟨d', e, h1, h2, h3⟩ | ⟨h0, d', e, h1, h2⟩
  · left
    refine ⟨{ d' with pend := setP d.pend n (d.pend n ++ [b]) }, ?_, ⟨h1.safe, rfl⟩, ⟨h2.up, h2.fuse, fun j hj => ?_⟩, h3⟩
    · unfold writeF
      rw [if_pos hb, e]; rfl
    · show 0 ≤ j ∧ j < d'.safe.length
      rw [h1.safe]
      by_cases e : j = n
      · subst e; exact hn
      · simp only [setP, if_neg e] at hj
        exact h.rng j hj
  · right
    refine ⟨h0, d', ?_, h1, h2⟩
    unfold writeF
    rw [if_pos hb, e, if_neg (by simp)]
structure Fl (d d' : Dv) : Prop where
  len : d'.safe.length = d.safe.length
  still : Still d'
  cur : ∀ j : Int, 0 ≤ j → j < d.safe.length → curF d' j = curF d j
theorem Fl.img {d d' : Dv} (h : Fl d d') {s : Int → Bk} (hs : Img d' s) : ∀ k : Int, 0 ≤ k → k < d.safe.length → s k = curF d k := fun k h0 h1 =>
  (img_still h.still hs k h0 (by rw [h.len]; exact h1)).trans (h.cur k h0 h1)
theorem flush_up {d : Dv} (h : Up d) (hs : 0 < d.safe.length) :
    (∃ d', flushF d = (0, d') ∧ Fl d d' ∧ Up d' ∧ (d.fuse = -1 → d'.fuse = -1)) ∨ (d.fuse ≠ -1 ∧ ∃ d', flushF d = (2, d') ∧ Same d d' ∧ d'.down = true) := by
  rcases op_up h (n := 0) ⟨by omega, by omega⟩ with ⟨d', e, h1, h2, h3⟩ | ⟨h0, d', e, h1, h2⟩
  · left
    refine ⟨{ d' with safe := (List.range d.safe.length).map fun (j : Nat) => curF d (j : Int), pend := fun _ => [] }, ?_, ⟨by simp, fun _ => rfl, fun j hj hl => ?_⟩, ⟨h2.up, h2.fuse, fun j hj => absurd rfl hj⟩, h3⟩
    · unfold flushF
      rw [e]; rfl
    · obtain ⟨k, rfl⟩ : ∃ k : Nat, j = k := ⟨j.toNat, by omega⟩
      have hk : k < d.safe.length := by omega
      show (([] : List Bk).getLast?).getD _ = _
      simp [hk]
  · right
    refine ⟨h0, d', ?_, h1, h2⟩
    unfold flushF
    rw [e, if_neg (by simp)]
theorem up_calm {d : Dv} (h : Up d) (hf : d.fuse = -1) : Calm d := ⟨h.up, hf, h.rng⟩
theorem calm_up {d : Dv} (h : Calm d) : Up d := ⟨h.1, by rw [h.2.1]; omega, h.2.2⟩
end Go.Proofs.Ytgbiffpnfpdcoaa
