/- blockdev: operate, Fuse, Down, Ops, Blocks, walked. -/
import Derived.Test.YtgbiffpnfpdcoaaBdA
namespace Go.Proofs.Ytgbiffpnfpdcoaa
open Go.RowKit Go.Maps
set_option linter.unusedVariables false
set_option linter.unusedSimpArgs false

theorem blk_set {w : World} {g o : Nat} {c : Array Value} {t : TypeId} {f : Nat × Nat} (h : w.heap[g]? = some (.cells c t f)) (u : Value) : (w.setCell ⟨g, o, none⟩ u).heap[g]? = some (.cells (c.setIfInBounds o u) t f) := by
  simp [World.setCell, Array.getElem?_modify, h]
theorem blk_fro {w : World} {g : Nat} {c : Array Value} {t : TypeId} (h : w.heap[g]? = some (.cells c t (0, 0))) (o : Nat) : w.frozen? ⟨g, o, none⟩ = false := by simp [World.frozen?, h]

/-- what an operation on a device comes to -/
def DvEnd (w : World) (g : Nat) (ρ : Nat → Option DRol) (N : Nat) (X : Int × Dv) (e : Ending) (w' : World) : Prop := e = .returned (.int .i64 X.1) ∧ DvAt w' g ρ N X.2 ∧ Keep (fun k => k ≠ g) w w'

def opF (d : Dv) (n wrong : Int) : Int × Dv :=
  if d.down = true then (2, d) else if n < 0 ∨ (d.safe.length : Int) ≤ n then (20, d) else if wrong ≠ 0 then (wrong, d) else if d.fuse = 0 then (2, { d with down := true }) else (0, { d with fuse := if 0 < d.fuse then d.fuse - 1 else d.fuse, ops := d.ops + 1 })

theorem operate_nil (w : World) (n wrong : Int) : Calls Try.prog 56 #[.pointer none, .int .i64 n, .int .i64 wrong] w fun e w' => e = .returned (.int .i64 1) ∧ w = w' := by
  go_enter Try.func56, Try.ntmps56
  go_wp2_with fail
  go_ret
  exact ⟨rfl, rfl⟩

set_option maxRecDepth 100000 in
set_option maxHeartbeats 2000000 in
theorem operate_any (w : World) (g : Nat) (ρ : Nat → Option DRol) (N : Nat) (d : Dv) (h : DvAt w g ρ N d) (hN : N ≤ 1000000000) (n wrong : Int) (hn : -9223372036854775808 ≤ n ∧ n ≤ 9223372036854775807) (hw : -9223372036854775808 ≤ wrong ∧ wrong ≤ 9223372036854775807) :
    Calls Try.prog 56 #[.pointer (some ⟨g, 0, none⟩), .int .i64 n, .int .i64 wrong] w (DvEnd w g ρ (N + 1) (opF d n wrong)) := by
  obtain ⟨sf, pd, fu, dn, op⟩ := d
  obtain ⟨vs, gm, m, h⟩ := h
  obtain ⟨va, vc, rfl⟩ := h.safe.slice
  have c0 := h.c0
  have c2 := h.c2
  have c3 := h.c3
  have c4 := h.c4
  have f2 := blk_fro h.head 2
  have f3 := blk_fro h.head 3
  have f4 := blk_fro h.head 4
  obtain ⟨hf1, hf2⟩ := h.fuse
  obtain ⟨ho1, ho2⟩ := h.ops
  obtain ⟨hs1, hs2⟩ := h.size
  obtain ⟨hn1, hn2⟩ := hn
  obtain ⟨hw1, hw2⟩ := hw
  have H := hid h
  clear h
  dsimp only at c0 c2 c3 c4 hf1 hf2 ho1 ho2 hs1 hs2
  have hstay : DvAt w g ρ (N + 1) ⟨sf, pd, fu, dn, op⟩ := ⟨_, gm, m, H.out.mono (Nat.le_succ N)⟩
  have HS := hid hstay
  clear hstay
  cases dn
  · by_cases h1 : n < 0 ∨ (sf.length : Int) ≤ n
    · have hop := hid (show opF ⟨sf, pd, fu, false, op⟩ n wrong = (20, ⟨sf, pd, fu, false, op⟩) by unfold opF; rw [if_neg (by simp), if_pos h1])
      by_cases h2 : n < 0
      all_goals
        try have h3 : (sf.length : Int) ≤ n := by omega
        clear h1
        go_enter Try.func56, Try.ntmps56
        go_wp2_with fail
        go_ret
        exact ⟨by rw [hop.out]; rfl, by rw [hop.out]; exact HS.out, Keep.refl _ _⟩
    · have h2 : ¬ n < 0 := fun e => h1 (.inl e)
      have h3 : ¬ (sf.length : Int) ≤ n := fun e => h1 (.inr e)
      by_cases h4 : wrong = 0
      · subst h4
        by_cases h5 : fu = 0
        · subst h5
          have hop := hid (show opF ⟨sf, pd, 0, false, op⟩ n 0 = (2, ⟨sf, pd, 0, true, op⟩) by unfold opF; rw [if_neg (by simp), if_neg h1, if_neg (by simp), if_pos rfl])
          clear h1
          go_enter Try.func56, Try.ntmps56
          go_wp2_with fail
          go_ret
          refine ⟨by rw [hop.out]; rfl, ?_, (Keep.refl _ _).setCell (by simp) _⟩
          rw [hop.out]
          exact ⟨_, gm, m, H.out.head' ((Keep.refl _ _).setCell (by simp) _) (by simp) _ (N + 1) (Nat.le_succ N) rfl rfl H.out.fuse ⟨ho1, by dsimp only; omega⟩ ((blk_set (o := 3) H.out.head (.bool true)).trans rfl)⟩
        · have hop := hid (show opF ⟨sf, pd, fu, false, op⟩ n 0 = (0, ⟨sf, pd, if 0 < fu then fu - 1 else fu, false, op + 1⟩) by unfold opF; rw [if_neg (by simp), if_neg h1, if_neg (by simp), if_neg h5])
          have ho3 : IntKind.i64.wrap (op + 1) = op + 1 := by rw [IntKind.wrap_i64]; omega
          clear h1
          by_cases h6 : 0 < fu
          · have hfw : IntKind.i64.wrap (fu - 1) = fu - 1 := by rw [IntKind.wrap_i64]; omega
            have e6 := hid (show (if 0 < fu then fu - 1 else fu) = fu - 1 from if_pos h6)
            go_enter Try.func56, Try.ntmps56
            go_wp2_with fail
            go_ret
            refine ⟨by rw [hop.out]; rfl, ?_, ((Keep.refl _ _).setCell (by simp) _).setCell (by simp) _⟩
            rw [hop.out, e6.out]
            exact ⟨_, gm, m, H.out.head' (((Keep.refl _ _).setCell (by simp) _).setCell (by simp) _) (by simp) _ (N + 1) (Nat.le_succ N) rfl rfl ⟨by dsimp only; omega, by dsimp only; omega⟩ ⟨by dsimp only; omega, by dsimp only; omega⟩ ((blk_set (o := 4) (blk_set (o := 2) H.out.head (.int .i64 (fu - 1))) (.int .i64 (op + 1))).trans rfl)⟩
          · have e6 := hid (show (if 0 < fu then fu - 1 else fu) = fu from if_neg h6)
            go_enter Try.func56, Try.ntmps56
            go_wp2_with fail
            go_ret
            refine ⟨by rw [hop.out]; rfl, ?_, (Keep.refl _ _).setCell (by simp) _⟩
            rw [hop.out, e6.out]
            exact ⟨_, gm, m, H.out.head' ((Keep.refl _ _).setCell (by simp) _) (by simp) _ (N + 1) (Nat.le_succ N) rfl rfl H.out.fuse ⟨by dsimp only; omega, by dsimp only; omega⟩ ((blk_set (o := 4) H.out.head (.int .i64 (op + 1))).trans rfl)⟩
      · have hop := hid (show opF ⟨sf, pd, fu, false, op⟩ n wrong = (wrong, ⟨sf, pd, fu, false, op⟩) by unfold opF; rw [if_neg (by simp), if_neg h1, if_pos h4])
        clear h1
        go_enter Try.func56, Try.ntmps56
        go_wp2_with fail
        go_ret
        exact ⟨by rw [hop.out]; rfl, by rw [hop.out]; exact HS.out, Keep.refl _ _⟩
  · have hop := hid (show opF ⟨sf, pd, fu, true, op⟩ n wrong = (2, ⟨sf, pd, fu, true, op⟩) by unfold opF; rw [if_pos rfl])
    go_enter Try.func56, Try.ntmps56
    go_wp2_with fail
    go_ret
    exact ⟨by rw [hop.out]; rfl, by rw [hop.out]; exact HS.out, Keep.refl _ _⟩

def fuseF (d : Dv) (k : Int) : Int × Dv := if d.down = true then (2, d) else (0, { d with fuse := max k (-1) })

theorem Fuse_nil (w : World) (n : Int) : Calls Try.prog 34 #[.pointer none, .int .i64 n] w fun e w' => e = .returned (.int .i64 1) ∧ w = w' := by
  go_enter Try.func34, Try.ntmps34
  go_wp2_with fail
  go_ret
  exact ⟨rfl, rfl⟩
theorem Down_nil (w : World) : Calls Try.prog 35 #[.pointer none] w fun e w' => e = .returned (.bool false) ∧ w = w' := by
  go_enter Try.func35, Try.ntmps35
  go_wp2_with fail
  go_ret
  exact ⟨rfl, rfl⟩
theorem Ops_nil (w : World) : Calls Try.prog 36 #[.pointer none] w fun e w' => e = .returned (.int .i64 0) ∧ w = w' := by
  go_enter Try.func36, Try.ntmps36
  go_wp2_with fail
  go_ret
  exact ⟨rfl, rfl⟩
theorem Blocks_nil (w : World) : Calls Try.prog 43 #[.pointer none] w fun e w' => e = .returned (.int .i64 0) ∧ w = w' := by
  go_enter Try.func43, Try.ntmps43
  go_wp2_with fail
  go_ret
  exact ⟨rfl, rfl⟩
section
variable {w : World} {g : Nat} {ρ : Nat → Option DRol} {N : Nat} {d : Dv}
set_option maxRecDepth 100000 in
set_option maxHeartbeats 2000000 in
theorem Fuse_any (h : DvAt w g ρ N d) (k : Int) (hk : -9223372036854775808 ≤ k ∧ k ≤ 9223372036854775807) :
    Calls Try.prog 34 #[.pointer (some ⟨g, 0, none⟩), .int .i64 k] w (DvEnd w g ρ N (fuseF d k)) := by
  obtain ⟨sf, pd, fu, dn, op⟩ := d
  obtain ⟨vs, gm, m, h⟩ := h
  have c3 := h.c3
  have f2 := blk_fro h.head 2
  have c2 := h.c2
  obtain ⟨hk1, hk2⟩ := hk
  have H := hid h
  clear h
  dsimp only at c3 c2
  cases dn
  · by_cases h1 : k < -1
    · have hop := hid (show fuseF ⟨sf, pd, fu, false, op⟩ k = (0, ⟨sf, pd, -1, false, op⟩) by unfold fuseF; rw [if_neg (by simp), show max k (-1) = -1 by omega])
      go_enter Try.func34, Try.ntmps34
      go_wp2_with fail
      go_ret
      refine ⟨by rw [hop.out]; rfl, ?_, (Keep.refl _ _).setCell (by simp) _⟩
      rw [hop.out]
      exact ⟨_, gm, m, H.out.head' ((Keep.refl _ _).setCell (by simp) _) (by simp) _ N (Nat.le_refl N) rfl rfl ⟨by dsimp only; omega, by dsimp only; omega⟩ H.out.ops ((blk_set (o := 2) H.out.head (.int .i64 (-1))).trans rfl)⟩
    · have hop := hid (show fuseF ⟨sf, pd, fu, false, op⟩ k = (0, ⟨sf, pd, k, false, op⟩) by unfold fuseF; rw [if_neg (by simp), show max k (-1) = k by omega])
      go_enter Try.func34, Try.ntmps34
      go_wp2_with fail
      go_ret
      refine ⟨by rw [hop.out]; rfl, ?_, (Keep.refl _ _).setCell (by simp) _⟩
      rw [hop.out]
      exact ⟨_, gm, m, H.out.head' ((Keep.refl _ _).setCell (by simp) _) (by simp) _ N (Nat.le_refl N) rfl rfl ⟨by dsimp only; omega, by dsimp only; omega⟩ H.out.ops ((blk_set (o := 2) H.out.head (.int .i64 k)).trans rfl)⟩
  · have hop := hid (show fuseF ⟨sf, pd, fu, true, op⟩ k = (2, ⟨sf, pd, fu, true, op⟩) by unfold fuseF; rw [if_pos rfl])
    go_enter Try.func34, Try.ntmps34
    go_wp2_with fail
    go_ret
    exact ⟨by rw [hop.out]; rfl, by rw [hop.out]; exact ⟨_, gm, m, H.out⟩, Keep.refl _ _⟩
theorem Down_any (h : DvAt w g ρ N d) : Calls Try.prog 35 #[.pointer (some ⟨g, 0, none⟩)] w fun e w' => e = .returned (.bool d.down) ∧ w = w' := by
  obtain ⟨vs, gm, m, h⟩ := h
  have c3 := h.c3
  clear h
  go_enter Try.func35, Try.ntmps35
  go_wp2_with fail
  go_ret
  exact ⟨rfl, rfl⟩
theorem Ops_any (h : DvAt w g ρ N d) : Calls Try.prog 36 #[.pointer (some ⟨g, 0, none⟩)] w fun e w' => e = .returned (.int .i64 d.ops) ∧ w = w' := by
  obtain ⟨vs, gm, m, h⟩ := h
  have c4 := h.c4
  clear h
  go_enter Try.func36, Try.ntmps36
  go_wp2_with fail
  go_ret
  exact ⟨rfl, rfl⟩
theorem Blocks_any (h : DvAt w g ρ N d) : Calls Try.prog 43 #[.pointer (some ⟨g, 0, none⟩)] w fun e w' => e = .returned (.int .i64 d.safe.length) ∧ w = w' := by
  obtain ⟨vs, gm, m, h⟩ := h
  have c0 := h.c0
  obtain ⟨a, c, e⟩ := h.safe.slice
  rw [e] at c0
  clear h
  go_enter Try.func43, Try.ntmps43
  go_wp2_with fail
  go_ret
  exact ⟨rfl, rfl⟩
end
end Go.Proofs.Ytgbiffpnfpdcoaa
