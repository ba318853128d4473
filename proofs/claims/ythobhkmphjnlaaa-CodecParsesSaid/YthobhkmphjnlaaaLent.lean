/- The laws' own helpers, walked: lent, held, behind; Pick. -/
import Derived.Test.YthobhkmphjnlaaaOpen
namespace Go.Proofs.Ythobhkmphjnlaaa
open Go.RowKit
set_option linter.unusedVariables false
set_option linter.unusedSimpArgs false

/-- what lent hands back: bytes of its own, three marks behind them -/
def LentEnd (l : List UInt8) (w : World) (e : Ending) (w' : World) : Prop :=
  ∃ g cap, e = .returned (.slice (some ⟨g, 0, none⟩) l.length cap) ∧ w.heap.size ≤ g ∧ OwnB w' w.heap.size (.slice (some ⟨g, 0, none⟩) (l.length + 3) cap) (l ++ [77, 77, 77]) ∧ Below w.heap.size w w'

theorem lent_split {w : World} {base : Nat} {v : Value} {l : List UInt8} (h : OwnB w base v l) (n : Nat) (hn : n = l.length) (hl : 0 < n) : ∃ g cap, n ≤ cap ∧ cap ≤ maxLen ∧ base ≤ g ∧ v = .slice (some ⟨g, 0, none⟩) n cap := by
  subst hn
  have hr := rdB_own h
  obtain ⟨a, cap, rfl, h1, h2, _, _⟩ := hr
  rcases h.2 with ⟨e, h2⟩ | ⟨g, cap, cur, e, h3⟩
  · omega
  · cases e
    exact ⟨_, _, h1, h2, h3.1, rfl⟩

set_option maxRecDepth 100000 in
set_option maxHeartbeats 400000 in
theorem lent_any (w : World) (v : Value) (l : List UInt8) (hv : RdB w v l) (hl : l.length + 3 ≤ 140737488355328) :
    Calls Try.prog 29 #[v] w (LentEnd l w) := by
  obtain ⟨a, cap, rfl, h1, h2, h3, h4⟩ := id hv
  have h2 : cap ≤ 9223372036854775807 := by unfold maxLen at h2; omega
  clear h3 h4
  have HV := hid (hv.alloc (.cells #[] 5))
  have HA : Hid (OwnB (w.alloc (.cells #[] 5)) w.heap.size (.slice (some ⟨w.heap.size, 0, none⟩) 0 0) []) := World.ownsRow_made w #[] 0 (Nat.le_refl _) (by simp [maxLen]) rfl
  go_enter Try.func29, Try.ntmps29
  go_wp2_with (first | (at_builtin; have HO' := HO.out; go_must (refine wl_appB rfl _ _ _ rfl w.heap.size _ l rfl (appB_own HO') _ [77, 77, 77] rfl (src_blk _ _ [77, 77, 77] _ rfl rfl) (by simp; omega) (by (first | omega | (simp only [World.alloc, Array.size_push]; omega))) ?_; intro v' w' k1 k2 k3 k4 k5 k6; have HQ := hid (k2 (by simp)); have HB := hid ((HBl.out.alloc (by omega) _).trans k5); clear k1 k2 k3 k4 k5 k6 HBl; rcases lent_split HQ.out (l.length + 3) (by simp) (by omega) with ⟨g, cap2, hc1, hc2, hc3, rfl⟩; have hc4 : cap2 ≤ 9223372036854775807 := by (unfold maxLen at hc2; omega))) | (at_builtin; refine wl_appB rfl _ _ _ rfl w.heap.size _ [] rfl (appB_own HA.out) _ l rfl (src_B HV.out) (by simp; omega) (by (first | omega | (simp only [World.alloc, Array.size_push]; omega))) ?_; intro v' w' k1 k2 k3 k4 k5 k6; have HO : Hid (OwnB _ w.heap.size v' l) := hid (own_belowS (k3 HA.out) ((Below.refl _ _).alloc (Nat.le_refl _) (.cells #[.int .u8 77, .int .u8 77, .int .u8 77] 5))); have HBl := hid (((Below.refl w.heap.size w).alloc (Nat.le_refl _) (.cells #[] 5)).trans k5); have hsz := HBl.out.size; clear k1 k2 k3 k4 k5 k6))
  go_ret
  exact ⟨g, cap2, rfl, hc3, HQ.out, HB.out⟩

theorem RdB.head {w : World} {g n cap : Nat} {l : List UInt8} (m : List UInt8) (h : RdB w (.slice (some ⟨g, 0, none⟩) n cap) (l ++ m)) (hn : n = l.length + m.length) : RdB w (.slice (some ⟨g, 0, none⟩) l.length cap) l := by
  have h' : RdB w (.slice (some ⟨g, 0, none⟩) (l ++ m).length cap) (l ++ m) := by rw [List.length_append, ← hn]; exact h
  have := h'.cut 0 l.length (by omega) (by simp)
  simpa [cutAt, Addr.add] using this

theorem RdB.tail {w : World} {g n cap : Nat} {l m : List UInt8} (h : RdB w (.slice (some ⟨g, 0, none⟩) n cap) (l ++ m)) (hn : n = l.length + m.length) (hc : l.length < cap) : RdB w (.slice (some ⟨g, l.length, none⟩) m.length (cap - l.length)) m := by
  have h' : RdB w (.slice (some ⟨g, 0, none⟩) (l ++ m).length cap) (l ++ m) := by rw [List.length_append, ← hn]; exact h
  have := h'.drop l.length (by simp)
  have hne : (cap = l.length) = False := by simp; omega
  have e : (if l = [] then (⟨g, 0, none⟩ : Addr) else ⟨g, l.length, none⟩) = ⟨g, l.length, none⟩ := by by_cases h0 : l = [] <;> simp [h0]
  simpa [cutAt, Addr.add, hne, e] using this

theorem OwnB.set {w : World} {base g n cap : Nat} {l : List UInt8} (h : OwnB w base (.slice (some ⟨g, 0, none⟩) n cap) l) (hn : n = l.length) (j : Nat) (b : UInt8) : OwnB (w.setCell ⟨g, j, none⟩ (bv b)) base (.slice (some ⟨g, 0, none⟩) n cap) (l.set j b) := by
  subst hn
  have := (World.ownsRow.stored h j (bv b)).1
  unfold OwnB
  rw [List.length_set, show bvs (l.set j b) = (bvs l).set j (bv b) from by simp [bvs, List.map_set]]
  exact this

theorem OwnB.cellAt {w : World} {base g n cap : Nat} {l : List UInt8} (h : OwnB w base (.slice (some ⟨g, 0, none⟩) n cap) l) (j : Nat) (hj : j < l.length) : w.cell? ⟨g, j, none⟩ = some (.int .u8 (l[j].toNat : Int)) := by
  obtain ⟨a, c, e, _, _, _, h4⟩ := rdB_own h
  simp only [Value.slice.injEq] at e
  obtain ⟨rfl, rfl, rfl⟩ := e
  obtain ⟨g', o, e, hg, hc⟩ := h4 (by omega)
  cases e
  have := hc j (by omega)
  rw [Nat.zero_add] at this
  rw [this, bvs_get l j hj]

theorem OwnB.frozenAt {w : World} {base g n cap : Nat} {l : List UInt8} (h : OwnB w base (.slice (some ⟨g, 0, none⟩) n cap) l) (hn : n = l.length) (j : Nat) : w.frozen? ⟨g, j, none⟩ = false := by
  subst hn
  exact World.ownsRow.frozenAt h j

set_option maxRecDepth 100000 in
set_option maxHeartbeats 400000 in
theorem held_any (w : World) (g cap : Nat) (l : List UInt8) (vb : Value) (hv : RdB w (.slice (some ⟨g, 0, none⟩) (l.length + 3) cap) (l ++ [77, 77, 77])) (hb : RdB w vb l) (hl : l.length ≤ 140737488355328) :
    Calls Try.prog 31 #[.slice (some ⟨g, 0, none⟩) l.length cap, vb] w fun e w' => e = .returned (.bool true) ∧ w = w' := by
  obtain ⟨a, capb, rfl, h1, h2, h3, h4⟩ := id hb
  obtain ⟨_, _, e, hc1, hc2, -, -⟩ := id hv
  simp only [Value.slice.injEq] at e
  obtain ⟨rfl, -, rfl⟩ := e
  simp only [List.length_append, List.length_cons, List.length_nil, Nat.zero_add] at hc1
  have hc3 : cap ≤ 9223372036854775807 := by unfold maxLen at hc2; omega
  clear h3 h4 h2
  have hne : (cap = l.length) = False := by simp; omega
  have hv' : RdB w (.slice (some ⟨g, 0, none⟩) (l ++ [77, 77, 77]).length cap) (l ++ [77, 77, 77]) := by simpa using hv
  have r1 : RdB w (.slice (some ⟨g, 0, none⟩) l.length cap) l := by
    have := hv'.cut 0 l.length (by omega) (by simp)
    simpa [cutAt, Addr.add] using this
  have r3 : RdB w (.slice (some ⟨g, l.length, none⟩) 3 (cap - l.length)) [77, 77, 77] := by
    have := hv'.drop l.length (by simp)
    have e : (if l = [] then (⟨g, 0, none⟩ : Addr) else ⟨g, l.length, none⟩) = ⟨g, l.length, none⟩ := by by_cases h0 : l = [] <;> simp [h0]
    simpa [cutAt, Addr.add, hne, e] using this
  have s1 := run_strB r1
  have s2 := run_strB hb
  have s3 := run_strB r3
  have hsub : l.length + 3 - l.length = 3 := by omega
  have hlt : (l.length : Int) + 3 ≤ 9223372036854775807 := by omega
  clear r1 r3 hv hv' hb
  generalize (⟨l.toArray⟩ : ByteArray) = st at s1 s2

  clear hne
  go_enter Try.func31, Try.ntmps31
  go_wp2_with fail
  go_ret
  exact ⟨rfl, rfl⟩
end Go.Proofs.Ythobhkmphjnlaaa
