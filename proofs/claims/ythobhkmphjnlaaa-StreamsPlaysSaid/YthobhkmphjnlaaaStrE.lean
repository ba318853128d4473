/- streams: Len, Version, Keyed, walked. -/
import Derived.Test.YthobhkmphjnlaaaStrC
import Derived.Deep.DeepCutAuto
namespace Go.Proofs.Ythobhkmphjnlaaa
open Go.RowKit
set_option linter.unusedVariables false
set_option linter.unusedSimpArgs false

set_option maxRecDepth 100000 in
set_option maxHeartbeats 400000 in
theorem Len_any (w : World) (g : Nat) (ρ : Nat → Option Rol) (ns nk : Nat) (x : Ix) (h : IxAt w g ρ ns nk x) (hall : x.all.length ≤ 1000000) :
    Calls Try.prog 20 #[.pointer (some ⟨g, 0, none⟩)] w fun e w' => e = .returned (.int .i64 (x.all.length : Int)) ∧ w = w' := by
  obtain ⟨va, gs, gk, ms, mk, h⟩ := h
  obtain ⟨aa, ac, rfl⟩ := h.all.slice
  have c0 := h.c0
  clear h
  go_enter Try.func20, Try.ntmps20
  go_wp2_with fail
  go_ret
  exact ⟨rfl, rfl⟩

set_option maxRecDepth 100000 in
set_option maxHeartbeats 400000 in
theorem Version_any (w : World) (g : Nat) (ρ : Nat → Option Rol) (ns nk : Nat) (x : Ix) (h : IxAt w g ρ ns nk x) (s : ByteArray) (hs : s.size ≤ 9223372036854775807) :
    Calls Try.prog 16 #[.pointer (some ⟨g, 0, none⟩), .string s] w fun e w' => e = .returned (.int .i64 ((x.str s).length : Int)) ∧ w = w' := by
  obtain ⟨va, gs, gk, ms, mk, h⟩ := h
  have c1 := h.c1
  have hss : s.size ≤ maxLen := by unfold maxLen; omega
  have hlk := h.str.look Try.underlying82 (zeroInts _) (x := s) hss
  obtain ⟨sa, sc, hsv⟩ := (h.strs s hss).slice
  rw [show (ms s).getD (.slice none 0 0) = _ from hsv] at hlk
  dsimp only [kStr] at hlk
  clear hsv h
  go_enter Try.func16, Try.ntmps16
  go_wp2_with fail
  go_ret
  exact ⟨rfl, rfl⟩

def keyF (x : Ix) (k : ByteArray) : ByteArray × (Apd × Bool) := match x.key k with
  | some (s, a) => (s, a, true)
  | none => (⟨#[]⟩, app0, false)
def KeyEnd (w : World) (z : ByteArray × (Apd × Bool)) (e : Ending) (w' : World) : Prop :=
  e = .returned (.tuple #[.string z.1, .agg #[.int .i64 z.2.1.1, .int .i64 z.2.1.2.1, .int .i64 z.2.1.2.2.1, .bool z.2.1.2.2.2], .bool z.2.2]) ∧ Ext w w'

set_option maxRecDepth 100000 in
set_option maxHeartbeats 1000000 in
theorem Keyed_any (w : World) (g : Nat) (ρ : Nat → Option Rol) (ns nk : Nat) (x : Ix) (h : IxAt w g ρ ns nk x) (k : ByteArray) (hk : k.size ≤ 9223372036854775807) :
    Calls Try.prog 21 #[.pointer (some ⟨g, 0, none⟩), .string k] w (KeyEnd w (keyF x k)) := by
  obtain ⟨va, gs, gk, ms, mk, h⟩ := h
  have hks : k.size ≤ maxLen := by unfold maxLen; omega
  have hg0 := h.glt
  obtain ⟨wa, hwa⟩ : ∃ wa, wa = w.alloc (.cells #[.int .i64 0, .int .i64 0, .int .i64 0, .bool false] 29) := ⟨_, rfl⟩
  have hxa : Ext w wa := by rw [hwa]; exact (Ext.refl w).alloc _
  have hsa : wa.heap.size = w.heap.size + 1 := by rw [hwa]; simp
  have HA := hid (show wa.heap[w.heap.size]? = some (.cells #[.int .i64 0, .int .i64 0, .int .i64 0, .bool false] 29 (0, 0)) by rw [hwa]; exact heap_alloc_new _ _)
  have hp := h.ext hxa
  have c2 := hp.c2
  have hlk := hp.key.look_ok Try.underlying83 (zeroKeyed _) (x := k) hks
  rw [hp.keys k hks] at hlk
  obtain ⟨st, a1, a2, a3, a4, ok, hz, hlk⟩ : ∃ st a1 a2 a3 a4 ok, keyF x k = (st, (a1, a2, a3, a4), ok) ∧ (Instr.lookup 83 (.map (some gk)) (.string k) true).run Try.prog wa = .ok (.tuple #[.agg #[.string st, .int .i64 a1, .int .i64 a2, .int .i64 a3, .bool a4], .bool ok]) wa := by
    unfold keyF
    cases hkk : x.key k
    · rw [hkk] at hlk
      exact ⟨_, _, _, _, _, _, rfl, hlk⟩
    · rename_i z
      obtain ⟨t, b1, b2, b3, b4⟩ := z
      rw [hkk] at hlk
      exact ⟨_, _, _, _, _, _, rfl, hlk⟩
  have HZ := hid hz
  have HX := hid hxa
  have HSA := hid hsa
  have hga : g < wa.heap.size := by omega
  have hgn : ¬ g = wa.heap.size := by omega
  have hgn2 : ¬ wa.heap.size = g := by omega
  have HWA := hid hwa
  clear hz h hp hxa hsa hwa
  go_enter Try.func21, Try.ntmps21
  go_upto_region 3 with fail
  rw [← HWA.out]
  clear HWA
  obtain ⟨gA, hgA⟩ : ∃ gA, gA = w.heap.size := ⟨_, rfl⟩
  have hgAw : gA < wa.heap.size := by have := HSA.out; omega
  have hgA1 : ¬ gA = wa.heap.size := by omega
  have hgA2 : ¬ wa.heap.size = gA := by omega
  have hgA3 : w.heap.size ≤ gA := by omega
  rw [← hgA] at HA ⊢
  clear hgA
  have y0 : wa.cell? ⟨gA, 0, none⟩ = some (.int .i64 0) := (cell_of_row _ gA 0 _ _ _ HA.out).trans rfl
  have y1 : wa.cell? ⟨gA, 1, none⟩ = some (.int .i64 0) := (cell_of_row _ gA 1 _ _ _ HA.out).trans rfl
  have y2 : wa.cell? ⟨gA, 2, none⟩ = some (.int .i64 0) := (cell_of_row _ gA 2 _ _ _ HA.out).trans rfl
  have y3 : wa.cell? ⟨gA, 3, none⟩ = some (.bool false) := (cell_of_row _ gA 3 _ _ _ HA.out).trans rfl
  have x0 := frozen_blk HA.out 0
  have x1 := frozen_blk HA.out 1
  have x2 := frozen_blk HA.out 2
  have x3 := frozen_blk HA.out 3
  go_wp2_with fail
  go_region
  go_wp2_with fail
  have hr4 := set_blk (o := 3) (set_blk (o := 2) (set_blk (o := 1) (set_blk (o := 0) HA.out (.int .i64 a1)) (.int .i64 a2)) (.int .i64 a3)) (.bool a4)
  have hx4 : Ext w ((((wa.setCell ⟨gA, 0, none⟩ (.int .i64 a1)).setCell ⟨gA, 1, none⟩ (.int .i64 a2)).setCell ⟨gA, 2, none⟩ (.int .i64 a3)).setCell ⟨gA, 3, none⟩ (.bool a4)) := (((HX.out.setCell (p := ⟨gA, 0, none⟩) hgA3 _).setCell (p := ⟨gA, 1, none⟩) hgA3 _).setCell (p := ⟨gA, 2, none⟩) hgA3 _).setCell (p := ⟨gA, 3, none⟩) hgA3 _
  obtain ⟨W4, hW4⟩ : ∃ W4, W4 = ((((wa.setCell ⟨gA, 0, none⟩ (.int .i64 a1)).setCell ⟨gA, 1, none⟩ (.int .i64 a2)).setCell ⟨gA, 2, none⟩ (.int .i64 a3)).setCell ⟨gA, 3, none⟩ (.bool a4)) := ⟨_, rfl⟩
  rw [← hW4] at hr4 hx4 ⊢
  clear hW4 hlk
  obtain ⟨W5, hW5⟩ : ∃ W5, W5 = (W4.alloc (.cells #[.string st, .int .i64 a1, .int .i64 a2, .int .i64 a3, .bool a4] 88)).drew := ⟨_, rfl⟩
  rw [← hW5]
  have hx5 : Ext W4 W5 := by rw [hW5]; (· repeat (first | (with_reducible assumption) | exact Ext.refl _ | refine Ext.alloc ?_ _ | refine Ext.drew ?_ | refine Ext.drewN ?_ _ | (apply Ext.snart; (with_reducible assumption))))
  clear hW5
  have hr5 := (Below.block hx5 gA (Array.getElem?_eq_some_iff.1 hr4).1).trans hr4
  have r0 : W5.cell? ⟨gA, 0, none⟩ = some (.int .i64 a1) := (cell_of_row _ gA 0 _ _ _ hr5).trans rfl
  have r1 : W5.cell? ⟨gA, 1, none⟩ = some (.int .i64 a2) := (cell_of_row _ gA 1 _ _ _ hr5).trans rfl
  have r2 : W5.cell? ⟨gA, 2, none⟩ = some (.int .i64 a3) := (cell_of_row _ gA 2 _ _ _ hr5).trans rfl
  have r3 : W5.cell? ⟨gA, 3, none⟩ = some (.bool a4) := (cell_of_row _ gA 3 _ _ _ hr5).trans rfl
  refine bodyPost_ret (v := .tuple #[.string st, .agg #[.int .i64 a1, .int .i64 a2, .int .i64 a3, .bool a4], .bool ok]) (by simp [results, Try.results21, go_sem, r0, r1, r2, r3]) rfl ⟨by rw [HZ.out], hx4.trans hx5⟩
end Go.Proofs.Ythobhkmphjnlaaa
