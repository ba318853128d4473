/- Map.Take where it takes nothing. -/
import Derived.Test.YtbpcgfplokkfpaaAlT
namespace Go.Proofs.Ytbpcgfplokkfpaa
open Go.RowKit Go.Shelf
set_option linter.unusedVariables false
set_option linter.unusedSimpArgs false
attribute [local go_sem] Oper.semAt_some

set_option maxRecDepth 100000 in
set_option maxHeartbeats 4000000 in
theorem Take_full (T : Nat → Prop) (w : World) (g : Nat) (now last : List Bool) (h : MapAt T w g now last) (n : Int) (hn : ((freeIdx now last).length : Int) < n) (hnb : n ≤ 9223372036854775807) :
    Calls Try.prog 25 #[.pointer (some ⟨g, 0, none⟩), .int .i64 n] w fun e w' => e = .returned (.tuple #[.slice none 0 0, .int .i64 50]) ∧ Ext w w' := by
  have h0 : ¬ n < 0 := by omega
  have H := hid h
  clear h
  refine (callsIn_wide (n := 6)).1 (callsIn_of_wp_marks Try.func25 rfl trivial ?_ rfl)
  simp only [Try.ntmps25, List.size_toArray, List.length_cons, List.length_nil, Nat.reduceAdd, Nat.reduceSub, Array.replicate_succ, Array.replicate_zero, List.push_toArray, List.append_toArray, List.nil_append, List.cons_append]
  refine wpIn_wide.2 ?_
  go_upto_region 3 with fail
  obtain ⟨WA, hWA⟩ : ∃ WA, WA = ((w.alloc (.cells #[.pointer (some ⟨g, 0, none⟩)] 34)).alloc (.cells #[.int .i64 n] 3)) := ⟨_, rfl⟩
  have hxA : Ext w WA := by rw [hWA]; exact ((Ext.refl w).alloc _).alloc _
  have hsA : WA.heap.size = w.heap.size + 2 := by rw [hWA]; simp
  have r2 : WA.heap[w.heap.size]? = some (.cells #[.pointer (some ⟨g, 0, none⟩)] 34 (0, 0)) := by
    rw [hWA]; exact (Below.block ((Ext.refl (w.alloc (.cells #[.pointer (some ⟨g, 0, none⟩)] 34))).alloc _) w.heap.size (by simp)).trans (heap_alloc_new _ _)
  have r3 : WA.heap[w.heap.size + 1]? = some (.cells #[.int .i64 n] 3 (0, 0)) := by
    rw [hWA]; have := heap_alloc_new (w.alloc (.cells #[.pointer (some ⟨g, 0, none⟩)] 34)) (.cells #[.int .i64 n] 3); rwa [heap_alloc_sz] at this
  rw [← hWA]
  clear hWA
  obtain ⟨B3, hB3⟩ : ∃ B3, B3 = w.heap.size + 1 := ⟨_, rfl⟩
  rw [← hB3] at r3 ⊢
  obtain ⟨B2, hB2⟩ : ∃ B2, B2 = w.heap.size := ⟨_, rfl⟩
  rw [← hB2] at r2 ⊢
  have HXA := hid hxA
  have c2 : WA.cell? ⟨B2, 0, none⟩ = some (.pointer (some ⟨g, 0, none⟩)) := (cell_of_row _ _ 0 _ _ _ r2).trans rfl
  have c3 : WA.cell? ⟨B3, 0, none⟩ = some (.int .i64 n) := (cell_of_row _ _ 0 _ _ _ r3).trans rfl
  clear hB2 hB3 hsA hxA r2 r3
  have hxd : Ext WA WA.drew := by (· repeat (first | (with_reducible assumption) | exact Ext.refl _ | refine Ext.alloc ?_ _ | refine Ext.drew ?_ | refine Ext.drewN ?_ _ | (apply Ext.snart; (with_reducible assumption))))
  refine wp_region_T (fun w' => w'.cell? ⟨B2, 0, none⟩ = some (.pointer (some ⟨g, 0, none⟩)) ∧ w'.cell? ⟨B3, 0, none⟩ = some (.int .i64 n)) [3, 4] (by kernel_rfl) ⟨hxd.cellS c2, hxd.cellS c3⟩ (fun hS => ?_)
  have hx0 := hxd
  clear hxd c2 c3
  generalize WA.drew = q0 at hS hx0 ⊢
  (refine wpAnyT_take (i := 0) (v := ?_) rfl (by kernel_rfl) (by kernel_rfl) (by kernel_rfl) (by kernel_rfl) (fun _ _ _ h => h) (Or.inl ⟨by rfl, ?_⟩) (by assumption) ?_; rotate_left; ((intro wS hSw; (try dsimp only at hSw); (try simp only [List.getElem_toArray, List.getElem_cons_zero, List.getElem_cons_succ]); go_simp); (try with_reducible rfl)); (try simp only [Act.put, List.getElem_toArray, List.getElem_cons_zero, List.getElem_cons_succ, List.setIfInBounds_toArray, List.set_cons_zero, List.set_cons_succ]))
  (refine wpAnyT_take (i := 1) (v := ?_) rfl (by kernel_rfl) (by kernel_rfl) (by kernel_rfl) (by kernel_rfl) (fun _ _ _ h => h) (Or.inl ⟨by rfl, ?_⟩) (by assumption) ?_; rotate_left; ((intro wS hSw; (try dsimp only at hSw); (try simp only [List.getElem_toArray, List.getElem_cons_zero, List.getElem_cons_succ]); go_simp); (try with_reducible rfl)); (try simp only [Act.put, List.getElem_toArray, List.getElem_cons_zero, List.getElem_cons_succ, List.setIfInBounds_toArray, List.set_cons_zero, List.set_cons_succ]))
  refine wpAnyT_all (rs := [2]) (by kernel_rfl) (by decide) (AllT.consS rfl (fun K hK => ?_) AllT.nil)
  go_simp
  go_at_call 24
  refine (Free_any T q0 g now last (H.out.ext (HXA.out.trans hx0))).mono ?_
  rintro e q1 ⟨rfl, hx1⟩
  (refine hK.out _ _ (⟨hx1.cellS hS.1, hx1.cellS hS.2⟩) (fun hS => ?_); clear hK K)
  refine wpAnyT_all (rs := [3]) (by kernel_rfl) (by decide) (AllT.consF rfl rfl (fun K hK => ?_) AllT.nil)
  go_simp
  (refine hK.out _ _ ?_; clear hK K)
  refine wpAnyT_all (rs := [4]) (by kernel_rfl) (by decide) (AllT.consF rfl rfl (fun K hK => ?_) AllT.nil)
  go_simp
  (refine hK.out _ _ ?_; clear hK K)
  refine wpAnyT_done (by kernel_rfl) (NoPanic.normal ?_) _
  have hxB := HXA.out.trans (hx0.trans hx1)
  have HXB := hid hxB
  clear hS hx0 hx1 hxB
  go_wp2_with fail
  exact ⟨_, by simp [results, Try.results25, go_sem], rfl, HXB.out⟩

set_option maxRecDepth 100000 in
set_option maxHeartbeats 4000000 in
theorem Take_neg (w : World) (g : Nat) (n : Int) (hn : n < 0) (hnb : -9223372036854775808 ≤ n) :
    Calls Try.prog 25 #[.pointer (some ⟨g, 0, none⟩), .int .i64 n] w fun e w' => e = .returned (.tuple #[.slice none 0 0, .int .i64 1]) ∧ Ext w w' := by
  refine (callsIn_wide (n := 6)).1 (callsIn_of_wp_marks Try.func25 rfl trivial ?_ rfl)
  simp only [Try.ntmps25, List.size_toArray, List.length_cons, List.length_nil, Nat.reduceAdd, Nat.reduceSub, Array.replicate_succ, Array.replicate_zero, List.push_toArray, List.append_toArray, List.nil_append, List.cons_append]
  refine wpIn_wide.2 ?_
  go_wp2_with fail
  exact ⟨_, by simp [results, Try.results25, go_sem], rfl, by (· repeat (first | (with_reducible assumption) | exact Ext.refl _ | refine Ext.alloc ?_ _ | refine Ext.drew ?_ | refine Ext.drewN ?_ _ | (apply Ext.snart; (with_reducible assumption))))⟩
end Go.Proofs.Ytbpcgfplokkfpaa
