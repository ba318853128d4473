/- alloc.New, walked. -/
import Derived.Test.YtbpcgfplokkfpaaAlH
import Derived.Deep.OwnRows
namespace Go.Proofs.Ytbpcgfplokkfpaa
open Go.RowKit
set_option linter.unusedVariables false
set_option linter.unusedSimpArgs false

def falses (n : Nat) : Array Value := madeCells #[.bool false] n
theorem falses_list (n : Nat) : (falses n).toList = (List.replicate n false).map Value.bool := by
  apply List.ext_getElem
  · simp [falses, madeCells]
  · intro i h1 h2
    simp [falses, madeCells, Nat.mod_one]
theorem makeB (n : Nat) (hn : n ≤ 512) (w : World) : (Instr.makeSlice 36 (.int .i64 n) (.int .i64 n)).run Try.prog w = .ok (.slice (some ⟨w.heap.size, 0, none⟩) n n) (w.alloc (.cells (falses n) 4)) := by
  obtain ⟨i0, hi, hz0, hz1, hz2⟩ := info_parts infoBool
  exact run_make_row 36 4 i0 _ Try.underlying36 hi hz0 hz1 rfl .i64 .i64 n (by rw [hz2]; omega) (by omega) w
theorem falses_own {w : World} {g n : Nat} (hg : w.heap[g]? = some (.cells (falses n) 4 (0, 0))) (hn : n ≤ 512) (base : Nat) (hb : base ≤ g) : OwnS rBo 4 w base (fun _ => False) (.slice (some ⟨g, 0, none⟩) n n) (List.replicate n false) := by
  have hc : cellsOf ((List.replicate n false).map fun b => ([Value.bool b], b)) = (List.replicate n false).map Value.bool := by
    unfold cellsOf
    rw [List.flatMap_map]
    induction List.replicate n false with
    | nil => rfl
    | cons a l ih => rw [List.flatMap_cons, ih]; rfl
  refine ⟨(List.replicate n false).map fun b => ([.bool b], b), by simp, ⟨?_, .inr ⟨g, n, _, by simp, hb, hg, by simp, by unfold maxLen; omega, ?_, ?_⟩⟩, fun k _ h => h, fun p hp => ?_⟩
  · rw [hc]; simp [rBo]
  · show (falses n).size = n * 1
    simp [falses, madeCells]
  · rw [hc, falses_list, List.length_map, List.length_replicate]
    exact List.take_of_length_le (by simp [rBo])
  · obtain ⟨b, _, rfl⟩ := List.mem_map.1 hp
    rfl
theorem new_leaf {w W : World} {n b1 b2 b3 : Nat} (hn : n ≤ 512) (hx : Ext w W) (h1 : W.heap[b1]? = some (.cells (falses n) 4 (0, 0))) (h2 : W.heap[b2]? = some (.cells (falses n) 4 (0, 0))) (h3 : W.heap[b3]? = some (.cells #[.slice (some ⟨b1, 0, none⟩) n n, .slice (some ⟨b2, 0, none⟩) n n] 94 (0, 0)))
    (l1 : w.heap.size ≤ b1) (l2 : w.heap.size ≤ b2) (l3 : w.heap.size ≤ b3) (n1 : b1 ≠ b2) (n2 : b1 ≠ b3) (n3 : b2 ≠ b3) :
    MapAt (fun k => w.heap.size ≤ k ∧ k < W.heap.size) W b3 (List.replicate n false) (List.replicate n false) := by
  have k1 := (Array.getElem?_eq_some_iff.1 h1).1
  have k2 := (Array.getElem?_eq_some_iff.1 h2).1
  have k3 := (Array.getElem?_eq_some_iff.1 h3).1
  refine ⟨_, _, h3, falses_own h1 hn 0 (Nat.zero_le _), falses_own h2 hn 0 (Nat.zero_le _), rfl, by simpa using hn, ⟨l3, k3⟩, fun k hk => ?_, fun k hk => ?_⟩
  · simp only [Value.ownBlock, Option.map_some, Option.some.injEq] at hk ⊢
    subst hk
    exact ⟨n2, fun e => n1 (Option.some.inj e.symm), l1, k1⟩
  · simp only [Value.ownBlock, Option.map_some, Option.some.injEq] at hk
    subst hk
    exact ⟨n3, l2, k2⟩

theorem rows3 (q : World) (a b : Array Value) (t u : TypeId) (c : Array Value) (v : TypeId) :
    (((q.alloc (.cells a t)).alloc (.cells b u)).alloc (.cells c v)).heap[q.heap.size]? = some (.cells a t (0, 0)) ∧ (((q.alloc (.cells a t)).alloc (.cells b u)).alloc (.cells c v)).heap[q.heap.size + 1]? = some (.cells b u (0, 0)) ∧ (((q.alloc (.cells a t)).alloc (.cells b u)).alloc (.cells c v)).heap[q.heap.size + 1 + 1]? = some (.cells c v (0, 0)) := by
  have h1 := heap_alloc_new q (.cells a t)
  have h2 := heap_alloc_new (q.alloc (.cells a t)) (.cells b u)
  have h3 := heap_alloc_new ((q.alloc (.cells a t)).alloc (.cells b u)) (.cells c v)
  rw [heap_alloc_sz] at h2
  rw [heap_alloc_sz, heap_alloc_sz] at h3
  exact ⟨(Below.block (((Ext.refl (q.alloc (.cells a t))).alloc _).alloc _) _ (by simp)).trans h1, (Below.block ((Ext.refl ((q.alloc (.cells a t)).alloc (.cells b u))).alloc _) _ (by simp)).trans h2, h3⟩

set_option maxRecDepth 100000 in
set_option maxHeartbeats 1000000 in
theorem NewM_ok (w : World) (n : Nat) (hn : n ≤ 512) :
    Calls Try.prog 23 #[.int .i64 n] w fun e w' => ∃ g, e = .returned (.pointer (some ⟨g, 0, none⟩)) ∧ MapAt (fun k => w.heap.size ≤ k ∧ k < w'.heap.size) w' g (List.replicate n false) (List.replicate n false) ∧ Ext w w' := by
  have hmk := fun W => makeB n hn W
  go_enter Try.func23, Try.ntmps23
  go_wp2_with fail
  have hxd : Ext w w.drew := by (· repeat (first | (with_reducible assumption) | exact Ext.refl _ | refine Ext.alloc ?_ _ | refine Ext.drew ?_ | refine Ext.drewN ?_ _ | (apply Ext.snart; (with_reducible assumption))))
  refine wp_region_T (fun _ => True) [4, 5, 6] (by kernel_rfl) trivial (fun hS => ?_)
  have hx0 := hxd
  generalize w.drew = q0 at hS hx0 ⊢
  (refine wpAnyT_take (i := 0) (v := ?_) rfl (by kernel_rfl) (by kernel_rfl) (by kernel_rfl) (by kernel_rfl) (fun _ _ _ h => h) (Or.inl ⟨by rfl, ?_⟩) (by assumption) ?_; rotate_left; ((intro wS hSw; (try dsimp only at hSw); (try simp only [List.getElem_toArray, List.getElem_cons_zero, List.getElem_cons_succ]); go_simp); (try with_reducible rfl)); (try simp only [Act.put, List.getElem_toArray, List.getElem_cons_zero, List.getElem_cons_succ, List.setIfInBounds_toArray, List.set_cons_zero, List.set_cons_succ]))
  (refine wpAnyT_take (i := 2) (v := ?_) rfl (by kernel_rfl) (by kernel_rfl) (by kernel_rfl) (by kernel_rfl) (fun _ _ _ h => h) (Or.inl ⟨by rfl, ?_⟩) (by assumption) ?_; rotate_left; ((intro wS hSw; (try dsimp only at hSw); (try simp only [List.getElem_toArray, List.getElem_cons_zero, List.getElem_cons_succ]); go_simp); (try with_reducible rfl)); (try simp only [Act.put, List.getElem_toArray, List.getElem_cons_zero, List.getElem_cons_succ, List.setIfInBounds_toArray, List.set_cons_zero, List.set_cons_succ]))
  have hz0 := hx0.size
  refine wpAnyT_all (rs := [1, 3]) (by kernel_rfl) (by decide) (AllT.consS rfl (fun K hK => ?_) (AllT.consS rfl (fun K hK => ?_) AllT.nil))
  · go_simp
    (refine hK.out _ _ (trivial) (fun hS => ?_); clear hK K)
    refine wpAnyT_all (rs := [3]) (by kernel_rfl) (by decide) (AllT.consS rfl (fun K hK => ?_) AllT.nil)
    go_simp
    (refine hK.out _ _ (trivial) (fun hS => ?_); clear hK K)
    refine wpAnyT_all (rs := [4]) (by kernel_rfl) (by decide) (AllT.consF rfl rfl (fun K hK => ?_) AllT.nil)
    go_simp
    (refine hK.out _ _ ?_; clear hK K)
    refine wpAnyT_all (rs := [5]) (by kernel_rfl) (by decide) (AllT.consF rfl rfl (fun K hK => ?_) AllT.nil)
    go_simp
    (refine hK.out _ _ ?_; clear hK K)
    refine wpAnyT_all (rs := [6]) (by kernel_rfl) (by decide) (AllT.consF rfl rfl (fun K hK => ?_) AllT.nil)
    go_simp
    (refine hK.out _ _ ?_; clear hK K)
    refine wpAnyT_done (by kernel_rfl) (NoPanic.normal ?_) _
    go_wp2_with fail
    go_ret
    obtain ⟨r1, r2, r3⟩ := rows3 q0 (falses n) (falses n) 4 4 _ _
    exact ⟨_, rfl, new_leaf hn (hx0.trans (by (· repeat (first | (with_reducible assumption) | exact Ext.refl _ | refine Ext.alloc ?_ _ | refine Ext.drew ?_ | refine Ext.drewN ?_ _ | (apply Ext.snart; (with_reducible assumption)))))) r1 r2 r3 (by omega) (by omega) (by omega) (by omega) (by omega) (by omega), hx0.trans (by (· repeat (first | (with_reducible assumption) | exact Ext.refl _ | refine Ext.alloc ?_ _ | refine Ext.drew ?_ | refine Ext.drewN ?_ _ | (apply Ext.snart; (with_reducible assumption)))))⟩
  · go_simp
    (refine hK.out _ _ (trivial) (fun hS => ?_); clear hK K)
    refine wpAnyT_all (rs := [1]) (by kernel_rfl) (by decide) (AllT.consS rfl (fun K hK => ?_) AllT.nil)
    go_simp
    (refine hK.out _ _ (trivial) (fun hS => ?_); clear hK K)
    refine wpAnyT_all (rs := [4]) (by kernel_rfl) (by decide) (AllT.consF rfl rfl (fun K hK => ?_) AllT.nil)
    go_simp
    (refine hK.out _ _ ?_; clear hK K)
    refine wpAnyT_all (rs := [5]) (by kernel_rfl) (by decide) (AllT.consF rfl rfl (fun K hK => ?_) AllT.nil)
    go_simp
    (refine hK.out _ _ ?_; clear hK K)
    refine wpAnyT_all (rs := [6]) (by kernel_rfl) (by decide) (AllT.consF rfl rfl (fun K hK => ?_) AllT.nil)
    go_simp
    (refine hK.out _ _ ?_; clear hK K)
    refine wpAnyT_done (by kernel_rfl) (NoPanic.normal ?_) _
    go_wp2_with fail
    go_ret
    obtain ⟨r1, r2, r3⟩ := rows3 q0 (falses n) (falses n) 4 4 _ _
    exact ⟨_, rfl, new_leaf hn (hx0.trans (by (· repeat (first | (with_reducible assumption) | exact Ext.refl _ | refine Ext.alloc ?_ _ | refine Ext.drew ?_ | refine Ext.drewN ?_ _ | (apply Ext.snart; (with_reducible assumption)))))) r2 r1 r3 (by omega) (by omega) (by omega) (by omega) (by omega) (by omega), hx0.trans (by (· repeat (first | (with_reducible assumption) | exact Ext.refl _ | refine Ext.alloc ?_ _ | refine Ext.drew ?_ | refine Ext.drewN ?_ _ | (apply Ext.snart; (with_reducible assumption)))))⟩
theorem NewM_no (w : World) (n : Int) (hn : -9223372036854775808 ≤ n ∧ n ≤ 9223372036854775807) (hb : n < 0 ∨ 512 < n) :
    Calls Try.prog 23 #[.int .i64 n] w fun e w' => e = .returned (.pointer none) ∧ w = w' := by
  have hb' : n < 0 ∨ (¬ n < 0 ∧ 512 < n) := by omega
  rcases hb' with h | ⟨h1, h2⟩
  all_goals
    go_enter Try.func23, Try.ntmps23
    go_wp2_with fail
    go_ret
    exact ⟨rfl, rfl⟩
end Go.Proofs.Ytbpcgfplokkfpaa
