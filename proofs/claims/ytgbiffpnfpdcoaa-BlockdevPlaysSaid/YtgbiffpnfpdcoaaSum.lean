/- The walks of the checksum: codec's by a table, the reference's bit by bit. -/
import Derived.Test.YtgbiffpnfpdcoaaGet
namespace Go.Proofs.Ytgbiffpnfpdcoaa
open Go.RowKit
set_option linter.unusedVariables false
set_option linter.unusedSimpArgs false

theorem sizeTab : (Try.prog.info? 152).map (·.size) = some 16 := by kernel_rfl

set_option maxRecDepth 100000 in
set_option maxHeartbeats 400000 in
theorem table_any (w : World) :
    Calls Try.prog 100 #[] w fun e w' => e = .returned (.agg (tabCells 16)) ∧ Below w.heap.size w w' := by
  go_enter Try.func100, Try.ntmps100
  go_wp2
  rw [← tabCells_zero]
  generalize hB : w.heap.size = B
  go_loopw [4] (fun i wr => ∃ k : Nat, k ≤ 16 ∧ i = .int .i64 k ∧ wr.heap[B + 1]? = some (.cells (tabCells k) 152 (0, 0)) ∧ wr.heap[B]? = some (.cells (tabCells 0) 152 (0, 0)) ∧ Below B w wr) (fun i _ => 16 - (intOf i).toNat)
  case atStart =>
    subst hB
    exact ⟨0, by omega, rfl, heap_alloc2_new _ _ _, heap_alloc2_old _ _ _, ((Below.refl _ _).alloc (Nat.le_refl _) _).alloc (by simp) _⟩
  case round =>
    obtain ⟨k, hk, rfl, h1, h0, hbel⟩ := hrel
    by_cases hlt : k < 16
    · have hcell : wr.cell? ⟨B + 1, k, none⟩ = some (.int .u32 0) := by rw [cell_of_row _ _ _ _ _ _ h1, tabCells_get k k hlt, if_neg (by omega)]
      have hfr : wr.frozen? ⟨B + 1, k, none⟩ = false := frozen_of_row _ _ _ _ _ h1
      have H1 := hid h1
      have H0 := hid h0
      clear h1 h0
      go_wp2
      obtain ⟨wo, rfl⟩ : ∃ wo : World, wo = wr := ⟨_, rfl⟩
      go_loop [3, 9] (fun r j => ∃ m : Nat, m ≤ 4 ∧ j = .int .i64 m ∧ r = .int .u32 ((stN m k : Nat) : Int)) (fun _ j => 4 - (intOf j).toNat)
      case atStart => exact ⟨0, by omega, rfl, rfl⟩
      case round =>
        obtain ⟨m, hm, rfl, rfl⟩ := hrel
        by_cases hml : m < 4
        · have hx := stN_lt m k (by omega)
          have hst := hid (show st (stN m k) = stN (m + 1) k from rfl)
          generalize hxx : stN m k = x at *
          have h1 := u32_and1 x hx
          have h2 := hid (st_bits x hx)
          have h3 : x % 2 ≤ 1 := by omega
          generalize hy : x % 2 = y at *
          clear hxx hy
          go_wp2
          go_round
          case rel => exact ⟨m + 1, by omega, by go_num, by rw [h2.out, hst.out]⟩
          case measure => simp [intOf]; omega
        · obtain rfl : m = 4 := by omega
          go_wp2
          go_roundw
          case rel =>
            refine ⟨k + 1, by omega, by go_num, ?_, ?_, hbel.setCell (by simp) _⟩
            · rw [heap_setCell_same _ _ _ _ _ _ H1.out, tabCells_set k hlt]
            · rw [_root_.Go.heap_setCell_other _ _ _ _ (by simp)]; exact H0.out
          case measure => simp [intOf]; omega
    · obtain rfl : k = 16 := by omega
      have H0 := hid h0
      clear h0
      go_wp2_with (first | ((with_reducible refine at_load ?_); go_must (refine wpList_load_row rfl 152 _ rfl (B + 1) rfl 152 (tabCells 16) _ _ h1 Try.underlying152 rfl (by rw [tabCells_size]; exact sizeTab) ?_)) | ((with_reducible refine at_store ?_); go_must (refine wpList_store_row rfl 152 _ _ rfl B (tabCells 16) rfl rfl 152 (tabCells 0) H0.out (by rw [tabCells_size]; exact sizeTab) (by rw [tabCells_size, tabCells_size]) (by decide +kernel) ?_)))
      refine bodyPost_ret (v := .agg (tabCells 16)) (results_cell_row rfl _ _ B 152 (tabCells 16) (0, 0) _ rfl (setRow_heap _ _ _ _ _ _ H0.out) Try.underlying152 rfl (by rw [tabCells_size]; exact sizeTab)) rfl ⟨rfl, ?_⟩
      subst hB
      exact hbel.trans ⟨rfl, rfl, rfl, by simp, fun j hj => setRow_other _ _ _ _ (by omega)⟩

set_option maxRecDepth 100000 in
set_option maxHeartbeats 400000 in
theorem Sum_any (w : World) (v : Value) (l : List UInt8) (hv : RdB w v l) :
    Calls Try.prog 94 #[v] w fun e w' => e = .returned (.int .u32 ((sumF l : Nat) : Int)) ∧ Below w.heap.size w w' := by
  obtain ⟨a, cap, rfl, h1, h2, h3, h4⟩ := id hv
  have h2 : cap ≤ 9223372036854775807 := by unfold maxLen at h2; omega
  clear h3 h4
  go_enter Try.func94, Try.ntmps94
  go_wp2_with (first | (go_at_call 100; refine (table_any _).mono ?_; rintro e w1 ⟨rfl, hb1⟩) | ((with_reducible refine at_store ?_); go_must (refine wpList_store_row rfl 152 _ _ rfl w1.heap.size (tabCells 16) rfl rfl 152 (tabCells 0) (by rw [tabCells_zero]; exact heap_alloc_new _ _) (by rw [tabCells_size]; exact sizeTab) (by rw [tabCells_size, tabCells_size]) (by decide +kernel) ?_)))
  rw [← tabCells_zero]
  obtain ⟨W, hW⟩ : ∃ W, W = (w1.alloc (.cells (tabCells 0) 152)).setRow w1.heap.size (tabCells 16) := ⟨_, rfl⟩
  rw [← hW]
  have hT : ∀ j, j < 16 → W.cell? ⟨w1.heap.size, j, none⟩ = some (.int .u32 ((stN 4 j : Nat) : Int)) := by
    intro j hj
    rw [hW, cell_of_row _ _ _ _ _ _ (setRow_heap _ _ _ _ _ _ (heap_alloc_new w1 _)), tabCells_get 16 j hj, if_pos hj]
  have hbel : Below w.heap.size w W := by
    subst hW
    exact hb1.trans ⟨rfl, rfl, rfl, by simp [World.setRow], fun j hj => by
      have hs := hb1.size
      rw [setRow_other _ _ _ _ (by omega)]
      exact Below.heap_alloc _ _ _ (by omega)⟩
  have hvW : RdB W (.slice a l.length cap) l := hv.below hbel
  obtain ⟨_, _, e4, _, _, _, h4⟩ := id hvW
  simp only [Value.slice.injEq, true_and] at e4
  obtain ⟨rfl, rfl⟩ := e4
  have H4 := hid h4
  have HT := hid hT
  clear hT h4 hvW hv hW
  generalize hBB : w1.heap.size = B at *
  clear hBB hb1
  go_loop [4, 10] (fun r i => ∃ k : Nat, k ≤ l.length ∧ i = .int .i64 k ∧ r = .int .u32 ((sumGo 4294967295 (l.take k) : Nat) : Int)) (fun _ i => l.length - (intOf i).toNat)
  case atStart => exact ⟨0, by omega, rfl, rfl⟩
  case round =>
    obtain ⟨k, hk, rfl, rfl⟩ := hrel
    have hx := sumGo_lt (l.take k) 4294967295 (by omega)
    by_cases hl : k < l.length
    · obtain ⟨g, o, rfl, hg, hc⟩ := H4.out (by omega)
      have hck : W.cell? ⟨g, o + k, none⟩ = some (.int .u8 (l[k].toNat : Int)) := by rw [hc k (by omega), bvs_get l k hl]
      have Hs := hid (show sumGo 4294967295 (l.take (k + 1)) = sumStep (sumGo 4294967295 (l.take k)) l[k] by rw [← sumGo_snoc, List.take_succ_eq_append_getElem hl])
      clear hc
      generalize l[k] = c at hck Hs
      generalize sumGo 4294967295 (l.take k) = x at *
      have hcb : c.toNat < 256 := c.toNat_lt
      obtain ⟨q, s, t, q1, s1, t1, q2, e1, b1, e2, b2, e3, b3, e4, b4, e5, b5, e6, b6, e7, b7, e8⟩ := sum_round x c hx
      have c1 := HT.out s b2
      have c2 := HT.out s1 b5
      rw [← e3] at c1
      rw [← e6] at c2
      have E8 := hid e8
      clear e3 e6 e8
      go_wp2
      go_round
      case rel => exact ⟨k + 1, by omega, by go_num, by rw [Hs.out, ← E8.out]⟩
      case measure => simp [intOf]; omega
    · obtain rfl : k = l.length := by omega
      rw [List.take_length] at hx ⊢
      go_wp2
      go_ret
      exact ⟨congrArg (fun z => Ending.returned (Value.int .u32 z)) (not_bits _ hx), hbel⟩

/-! ### the reference's -/

end Go.Proofs.Ytgbiffpnfpdcoaa
