/- The reference's Frame, walked. -/
import Derived.Test.YthmpikbbkoblfaaRefG
namespace Go.Proofs.Ythmpikbbkoblfaa
open Go.RowKit
set_option linter.unusedVariables false
set_option linter.unusedSimpArgs false
attribute [local go_sem ↓] Go.wp_at_zero Go.wp_at_succ

set_option maxRecDepth 100000 in
set_option maxHeartbeats 1000000 in
theorem RFrame_short (w : World) (v : Value) (l : List UInt8) (hv : RdB w v l) (hl : l.length ≤ 140737488355328) (h5 : l.length < 5) :
    Calls Try.prog 46 #[v] w (FrameEnd (frameF l) w) := by
  obtain ⟨a, cap, rfl, h1, h2, h3, h4⟩ := id hv
  have h2 : cap ≤ 9223372036854775807 := by unfold maxLen at h2; omega
  have HV := hid (hv.alloc (.cells #[.int .u8 0, .slice none 0 0] 31))
  clear h4
  go_enter Try.func46, Try.ntmps46
  go_wp2
  refine bodyPost_ret (v := .tuple #[.agg #[.int .u8 0, .slice none 0 0], .int .i64 0, .int .i64 10]) (by simp [results, Try.results46, go_sem]) rfl ?_
  rw [frameF, if_pos h5]
  refine ⟨_, rfl, World.ownsRow_nil _ _ _ _, ?_⟩
  exact (Below.refl _ _).alloc (Nat.le_refl _) _


set_option maxRecDepth 100000 in
set_option maxHeartbeats 1000000 in
theorem RFrame_long (w : World) (v : Value) (l : List UInt8) (hv : RdB w v l) (hl : l.length ≤ 140737488355328) (h5 : ¬l.length < 5) (n k : Nat) (hU : uintF (l.drop 5) = (n, k, 0)) (hlong : 2000 < n) :
    Calls Try.prog 46 #[v] w (FrameEnd (frameF l) w) := by
  obtain ⟨a, cap, rfl, h1, h2, h3, h4⟩ := id hv
  have h2 : cap ≤ 9223372036854775807 := by unfold maxLen at h2; omega
  have HV := hid (hv.alloc (.cells #[.int .u8 0, .slice none 0 0] 31))
  clear h4
  have hd := RdB.drop HV.out 5 (by omega)
  have hfc := uintF_facts (l.drop 5)
  rw [hU] at hfc
  obtain ⟨f1, f2, f3, f4⟩ := hfc
  dsimp only at f1 f2 f3 f4
  have HU := hid hU
  have hlen : (l.drop 5).length = l.length - 5 := by simp
  have HD := hid hd
  clear hd hU
  have HF : Hid (frameF l = if 0 ≠ 0 then ⟨0, [], 0, 0⟩ else if 2000 < n then ⟨0, [], 0, 12⟩ else if l.length - 5 - k < n then ⟨0, [], 0, 10⟩
      else if (u32F l).1 ≠ sumF ((l.drop 4).take (1 + k + n)) then ⟨0, [], 0, 11⟩ else ⟨l.getD 4 0, (l.drop (5 + k)).take n, 5 + k + n, 0⟩) := by
    show _ = _
    rw [frameF, if_neg h5, HU.out]
  go_enter Try.func46, Try.ntmps46
  go_wp2_with (first | ((with_reducible refine at_slice ?_); go_must (refine wl_slice_l rfl rfl Try.underlying22 sizeU8 rfl rfl 5 rfl ?_ ?_; omega)) | (go_at_call 39; go_must (refine (RUint_any _ _ (l.drop 5) HD.out).mono ?_; rintro e w1 ⟨rfl, hb1⟩; rw [HU.out]; dsimp only; have hs1 := hb1.size; simp only [World.alloc, Array.size_push] at hs1; have HB1 := (hb1.block w.heap.size (by simp)).trans (heap_alloc_new w _); have c0 : w1.cell? ⟨w.heap.size, 0, none⟩ = some (.int .u8 0) := (by rw [cell_of_row _ _ _ _ _ _ HB1]; rfl); have c1 : w1.cell? ⟨w.heap.size, 1, none⟩ = some (.slice none 0 0) := (by rw [cell_of_row _ _ _ _ _ _ HB1]; rfl); have g0 : w1.frozen? ⟨w.heap.size, 0, none⟩ = false := frozen_of_row _ _ _ _ _ HB1; have g1 : w1.frozen? ⟨w.heap.size, 1, none⟩ = false := frozen_of_row _ _ _ _ _ HB1; have HB1' := hid HB1; clear HB1)))
  refine bodyPost_ret (v := .tuple #[.agg #[.int .u8 0, .slice none 0 0], .int .i64 0, .int .i64 12]) (by simp [results, Try.results46, go_sem, c0, c1]) rfl ?_
  rw [HF.out, if_neg (by simp), if_pos hlong]
  exact ⟨_, rfl, World.ownsRow_nil _ _ _ _, ((((Below.refl w.heap.size w).alloc (Nat.le_refl _) _).trans (hb1.mono (by simp))).setCell (by simp) _).setCell (by simp) _⟩


set_option maxRecDepth 100000 in
set_option maxHeartbeats 1000000 in
theorem RFrame_cut (w : World) (v : Value) (l : List UInt8) (hv : RdB w v l) (hl : l.length ≤ 140737488355328) (h5 : ¬l.length < 5) (n k : Nat) (hU : uintF (l.drop 5) = (n, k, 0)) (hlong : ¬2000 < n) (hsh : l.length - 5 - k < n) :
    Calls Try.prog 46 #[v] w (FrameEnd (frameF l) w) := by
  obtain ⟨a, cap, rfl, h1, h2, h3, h4⟩ := id hv
  have h2 : cap ≤ 9223372036854775807 := by unfold maxLen at h2; omega
  have HV := hid (hv.alloc (.cells #[.int .u8 0, .slice none 0 0] 31))
  clear h4
  have hd := RdB.drop HV.out 5 (by omega)
  have hfc := uintF_facts (l.drop 5)
  rw [hU] at hfc
  obtain ⟨f1, f2, f3, f4⟩ := hfc
  dsimp only at f1 f2 f3 f4
  have HU := hid hU
  have hlen : (l.drop 5).length = l.length - 5 := by simp
  have HD := hid hd
  clear hd hU
  have HF : Hid (frameF l = if 0 ≠ 0 then ⟨0, [], 0, 0⟩ else if 2000 < n then ⟨0, [], 0, 12⟩ else if l.length - 5 - k < n then ⟨0, [], 0, 10⟩
      else if (u32F l).1 ≠ sumF ((l.drop 4).take (1 + k + n)) then ⟨0, [], 0, 11⟩ else ⟨l.getD 4 0, (l.drop (5 + k)).take n, 5 + k + n, 0⟩) := by
    show _ = _
    rw [frameF, if_neg h5, HU.out]
  go_enter Try.func46, Try.ntmps46
  go_wp2_with (first | ((with_reducible refine at_slice ?_); go_must (refine wl_slice_l rfl rfl Try.underlying22 sizeU8 rfl rfl 5 rfl ?_ ?_; omega)) | (go_at_call 39; go_must (refine (RUint_any _ _ (l.drop 5) HD.out).mono ?_; rintro e w1 ⟨rfl, hb1⟩; rw [HU.out]; dsimp only; have hs1 := hb1.size; simp only [World.alloc, Array.size_push] at hs1; have HB1 := (hb1.block w.heap.size (by simp)).trans (heap_alloc_new w _); have c0 : w1.cell? ⟨w.heap.size, 0, none⟩ = some (.int .u8 0) := (by rw [cell_of_row _ _ _ _ _ _ HB1]; rfl); have c1 : w1.cell? ⟨w.heap.size, 1, none⟩ = some (.slice none 0 0) := (by rw [cell_of_row _ _ _ _ _ _ HB1]; rfl); have g0 : w1.frozen? ⟨w.heap.size, 0, none⟩ = false := frozen_of_row _ _ _ _ _ HB1; have g1 : w1.frozen? ⟨w.heap.size, 1, none⟩ = false := frozen_of_row _ _ _ _ _ HB1; have HB1' := hid HB1; clear HB1)))
  refine bodyPost_ret (v := .tuple #[.agg #[.int .u8 0, .slice none 0 0], .int .i64 0, .int .i64 10]) (by simp [results, Try.results46, go_sem, c0, c1]) rfl ?_
  rw [HF.out, if_neg (by simp), if_neg hlong, if_pos hsh]
  exact ⟨_, rfl, World.ownsRow_nil _ _ _ _, ((((Below.refl w.heap.size w).alloc (Nat.le_refl _) _).trans (hb1.mono (by simp))).setCell (by simp) _).setCell (by simp) _⟩


set_option maxRecDepth 100000 in
set_option maxHeartbeats 1000000 in
theorem RFrame_err10 (w : World) (v : Value) (l : List UInt8) (hv : RdB w v l) (hl : l.length ≤ 140737488355328) (h5 : ¬l.length < 5) (hU : uintF (l.drop 5) = (0, 0, 10)) :
    Calls Try.prog 46 #[v] w (FrameEnd (frameF l) w) := by
  obtain ⟨a, cap, rfl, h1, h2, h3, h4⟩ := id hv
  have h2 : cap ≤ 9223372036854775807 := by unfold maxLen at h2; omega
  have HV := hid (hv.alloc (.cells #[.int .u8 0, .slice none 0 0] 31))
  clear h4
  have hd := RdB.drop HV.out 5 (by omega)
  have hfc := uintF_facts (l.drop 5)
  rw [hU] at hfc
  obtain ⟨f1, f2, f3, f4⟩ := hfc
  dsimp only at f1 f2 f3 f4
  have HU := hid hU
  have hlen : (l.drop 5).length = l.length - 5 := by simp
  have HD := hid hd
  clear hd hU
  have HF : Hid (frameF l = ⟨0, [], 0, 10⟩) := by
    show _ = _
    rw [frameF, if_neg h5, if_pos (by rw [HU.out]; simp), HU.out]
  clear f1 f2 f3 f4
  go_enter Try.func46, Try.ntmps46
  go_wp2_with (first | ((with_reducible refine at_slice ?_); go_must (refine wl_slice_l rfl rfl Try.underlying22 sizeU8 rfl rfl 5 rfl ?_ ?_; omega)) | (go_at_call 39; go_must (refine (RUint_any _ _ (l.drop 5) HD.out).mono ?_; rintro e w1 ⟨rfl, hb1⟩; rw [HU.out]; dsimp only; have hs1 := hb1.size; simp only [World.alloc, Array.size_push] at hs1; have HB1 := (hb1.block w.heap.size (by simp)).trans (heap_alloc_new w _); have c0 : w1.cell? ⟨w.heap.size, 0, none⟩ = some (.int .u8 0) := (by rw [cell_of_row _ _ _ _ _ _ HB1]; rfl); have c1 : w1.cell? ⟨w.heap.size, 1, none⟩ = some (.slice none 0 0) := (by rw [cell_of_row _ _ _ _ _ _ HB1]; rfl); have g0 : w1.frozen? ⟨w.heap.size, 0, none⟩ = false := frozen_of_row _ _ _ _ _ HB1; have g1 : w1.frozen? ⟨w.heap.size, 1, none⟩ = false := frozen_of_row _ _ _ _ _ HB1; have HB1' := hid HB1; clear HB1)))
  refine bodyPost_ret (v := .tuple #[.agg #[.int .u8 0, .slice none 0 0], .int .i64 0, .int .i64 10]) (by simp [results, Try.results46, go_sem, c0, c1]) rfl ?_
  rw [HF.out]
  exact ⟨_, rfl, World.ownsRow_nil _ _ _ _, ((((Below.refl w.heap.size w).alloc (Nat.le_refl _) _).trans (hb1.mono (by simp))).setCell (by simp) _).setCell (by simp) _⟩


set_option maxRecDepth 100000 in
set_option maxHeartbeats 1000000 in
theorem RFrame_err11 (w : World) (v : Value) (l : List UInt8) (hv : RdB w v l) (hl : l.length ≤ 140737488355328) (h5 : ¬l.length < 5) (hU : uintF (l.drop 5) = (0, 0, 11)) :
    Calls Try.prog 46 #[v] w (FrameEnd (frameF l) w) := by
  obtain ⟨a, cap, rfl, h1, h2, h3, h4⟩ := id hv
  have h2 : cap ≤ 9223372036854775807 := by unfold maxLen at h2; omega
  have HV := hid (hv.alloc (.cells #[.int .u8 0, .slice none 0 0] 31))
  clear h4
  have hd := RdB.drop HV.out 5 (by omega)
  have hfc := uintF_facts (l.drop 5)
  rw [hU] at hfc
  obtain ⟨f1, f2, f3, f4⟩ := hfc
  dsimp only at f1 f2 f3 f4
  have HU := hid hU
  have hlen : (l.drop 5).length = l.length - 5 := by simp
  have HD := hid hd
  clear hd hU
  have HF : Hid (frameF l = ⟨0, [], 0, 11⟩) := by
    show _ = _
    rw [frameF, if_neg h5, if_pos (by rw [HU.out]; simp), HU.out]
  clear f1 f2 f3 f4
  go_enter Try.func46, Try.ntmps46
  go_wp2_with (first | ((with_reducible refine at_slice ?_); go_must (refine wl_slice_l rfl rfl Try.underlying22 sizeU8 rfl rfl 5 rfl ?_ ?_; omega)) | (go_at_call 39; go_must (refine (RUint_any _ _ (l.drop 5) HD.out).mono ?_; rintro e w1 ⟨rfl, hb1⟩; rw [HU.out]; dsimp only; have hs1 := hb1.size; simp only [World.alloc, Array.size_push] at hs1; have HB1 := (hb1.block w.heap.size (by simp)).trans (heap_alloc_new w _); have c0 : w1.cell? ⟨w.heap.size, 0, none⟩ = some (.int .u8 0) := (by rw [cell_of_row _ _ _ _ _ _ HB1]; rfl); have c1 : w1.cell? ⟨w.heap.size, 1, none⟩ = some (.slice none 0 0) := (by rw [cell_of_row _ _ _ _ _ _ HB1]; rfl); have g0 : w1.frozen? ⟨w.heap.size, 0, none⟩ = false := frozen_of_row _ _ _ _ _ HB1; have g1 : w1.frozen? ⟨w.heap.size, 1, none⟩ = false := frozen_of_row _ _ _ _ _ HB1; have HB1' := hid HB1; clear HB1)))
  refine bodyPost_ret (v := .tuple #[.agg #[.int .u8 0, .slice none 0 0], .int .i64 0, .int .i64 11]) (by simp [results, Try.results46, go_sem, c0, c1]) rfl ?_
  rw [HF.out]
  exact ⟨_, rfl, World.ownsRow_nil _ _ _ _, ((((Below.refl w.heap.size w).alloc (Nat.le_refl _) _).trans (hb1.mono (by simp))).setCell (by simp) _).setCell (by simp) _⟩




theorem keepF {X w' : World} {row : Option Nat} {t : TypeId} (b : Nat) (k4 : X.grownBy w' row) (hb : X.heap[b]? = some (.cells #[.int .u8 0, .slice none 0 0] t (0, 0))) (hr : row ≠ some b) :
    w'.cell? ⟨b, 0, none⟩ = some (.int .u8 0) ∧ w'.cell? ⟨b, 1, none⟩ = some (.slice none 0 0) ∧ w'.frozen? ⟨b, 0, none⟩ = false ∧ w'.frozen? ⟨b, 1, none⟩ = false := by
  have hlt := (Array.getElem?_eq_some_iff.1 hb).1
  have hB := (k4.block b hlt (fun e => hr e.symm)).trans hb
  exact ⟨by rw [cell_of_row _ _ _ _ _ _ hB]; rfl, by rw [cell_of_row _ _ _ _ _ _ hB]; rfl, frozen_of_row _ _ _ _ _ hB, frozen_of_row _ _ _ _ _ hB⟩

set_option maxRecDepth 100000 in
set_option maxHeartbeats 1000000 in
theorem RFrame_rest (w : World) (v : Value) (l : List UInt8) (hv : RdB w v l) (hl : l.length ≤ 140737488355328) (h5 : ¬l.length < 5) (n k : Nat) (hU : uintF (l.drop 5) = (n, k, 0)) (hlong : ¬2000 < n) (hsh : ¬l.length - 5 - k < n) :
    Calls Try.prog 46 #[v] w (FrameEnd (frameF l) w) := by
  obtain ⟨a, cap, rfl, h1, h2, h3, h4⟩ := id hv
  have h2 : cap ≤ 9223372036854775807 := by unfold maxLen at h2; omega
  have HV := hid (hv.alloc (.cells #[.int .u8 0, .slice none 0 0] 31))
  clear h4 h3
  have hd := RdB.drop HV.out 5 (by omega)
  have hfc := uintF_facts (l.drop 5)
  rw [hU] at hfc
  obtain ⟨f1, f2, f3, f4⟩ := hfc
  dsimp only at f1 f2 f3 f4
  have HU := hid hU
  have hlen : (l.drop 5).length = l.length - 5 := by simp
  have HD := hid hd
  clear hd hU f4
  have HF : Hid (frameF l = if 0 ≠ 0 then ⟨0, [], 0, 0⟩ else if 2000 < n then ⟨0, [], 0, 12⟩ else if l.length - 5 - k < n then ⟨0, [], 0, 10⟩
      else if (u32F l).1 ≠ sumF ((l.drop 4).take (1 + k + n)) then ⟨0, [], 0, 11⟩ else ⟨l.getD 4 0, (l.drop (5 + k)).take n, 5 + k + n, 0⟩) := by
    show _ = _
    rw [frameF, if_neg h5, HU.out]
  have HS := hid (RdB.cut HV.out 4 (5 + k + n) (by omega) (by omega))
  have HC := hid (RdB.cut HV.out (5 + k) (5 + k + n) (by omega) (by omega))
  have HB : Hid ((w.alloc (.cells #[.int .u8 0, .slice none 0 0] 31)).heap[w.heap.size]? = some (.cells #[.int .u8 0, .slice none 0 0] 31 (0, 0))) := heap_alloc_new w _
  have HW : Hid (Below w.heap.size w (w.alloc (.cells #[.int .u8 0, .slice none 0 0] 31))) := (Below.refl _ _).alloc (Nat.le_refl _) _
  have wn1 : IntKind.i64.wrap ((n : Nat) : Int) = (n : Int) := by rw [IntKind.wrap_i64]; omega
  have W1 := hid wn1
  clear wn1
  go_enter Try.func46, Try.ntmps46
  go_wp2_with (first | ((with_reducible refine at_slice ?_); go_must (refine wl_slice_l rfl rfl Try.underlying22 sizeU8 rfl rfl 5 rfl ?_ ?_; omega)) | (go_at_call 39; go_must (refine (RUint_any _ _ (l.drop 5) HD.out).mono ?_; rintro e w2 ⟨rfl, hb2⟩; rw [HU.out]; dsimp only; have hs2 := hb2.size; simp only [World.alloc, Array.size_push] at hs2; have HB2 := hid ((hb2.block w.heap.size (by simp)).trans HB.out); have HV2 := hid (HV.out.below hb2); have HS2 := hid (HS.out.below hb2); have HC2 := hid (HC.out.below hb2); have HW2 := hid (HW.out.trans (hb2.mono (by simp))))))
  clear hb2 HV HS HC HW HB HD
  obtain ⟨_, _, e4, _, _, _, h4⟩ := id HV2.out
  simp only [Value.slice.injEq, true_and] at e4
  obtain ⟨rfl, rfl⟩ := e4
  obtain ⟨g, o, rfl, hg, hc⟩ := h4 (by omega)
  have hc4 : w2.cell? ⟨g, o + 4, none⟩ = some (.int .u8 ((l.getD 4 0).toNat : Int)) := by
    rw [hc 4 (by omega), bvs_get l 4 (by omega), List.getD_eq_getElem?_getD, List.getElem?_eq_getElem (by omega)]; rfl
  have b4 : (4 : Int) < (l.length : Int) := by omega
  have b5 : (0 : Int) ≤ 5 + (k : Int) := by omega
  have b6 : 5 + (k : Int) ≤ 5 + (k : Int) + (n : Int) := by omega
  have b7 : 5 + (k : Int) + (n : Int) ≤ (cap : Int) := by omega
  have b8 : (0 : Int) ≤ 5 + (k : Int) + (n : Int) := by omega
  generalize hx : l.getD 4 0 = x at hc4
  have HX := hid hx
  clear h4 hc hx
  have t1 : (5 + (k : Int)).toNat = 5 + k := by omega
  have t2 : (5 + (k : Int) + (n : Int)).toNat = 5 + k + n := by omega
  have t3 : (if cap = 5 + k then some (⟨g, o, none⟩ : Addr) else some ⟨g, o + (5 + k), none⟩) = cutAt (some ⟨g, o, none⟩) cap (5 + k) 1 := by
    unfold cutAt
    split
    · rfl
    · simp [Addr.add]
  have t4 : 5 + k + n - (5 + k) = n := by omega
  rw [t4] at HC2
  have HC3 := hid HC2.out.drew
  have hln0 : ((l.drop (5 + k)).take n).length = n := by simp; omega
  generalize hL : (l.drop (5 + k)).take n = L at HC3 HC2 hln0
  have HL := hid hL
  have HLn := hid hln0
  have hln : L.length ≤ 2000 := by omega
  clear hL hln0
  have Hc4 := hid hc4
  have w3 : IntKind.i64.wrap (5 + (k : Int) + (n : Int)) = 5 + (k : Int) + (n : Int) := by rw [IntKind.wrap_i64]; omega
  have w4 : IntKind.i64.wrap (n : Int) = (n : Int) := by rw [IntKind.wrap_i64]; omega
  have HO : Hid (OwnB (w2.drew.alloc (.cells #[] 5)) w2.heap.size (.slice (some ⟨w2.heap.size, 0, none⟩) 0 0) []) := World.ownsRow_made w2.drew #[] 0 (Nat.le_refl _) (by simp [maxLen]) rfl
  have HO2 : Hid (OwnB ((w2.alloc (.cells #[] 5)).alloc (.cells #[.int .u8 0, .slice none 0 0] 31)).drew w2.heap.size (.slice (some ⟨w2.heap.size, 0, none⟩) 0 0) []) := own_belowS (World.ownsRow_made w2 #[] 0 (Nat.le_refl _) (by simp [maxLen]) rfl) (((Below.refl _ _).alloc (Nat.le_refl _) _).drew)
  have HO3 : Hid (OwnB ((w2.alloc (.cells #[.int .u8 0, .slice none 0 0] 31)).alloc (.cells #[] 5)).drew w2.heap.size (.slice (some ⟨w2.heap.size + 1, 0, none⟩) 0 0) []) := own_belowS (show OwnB ((w2.alloc (.cells #[.int .u8 0, .slice none 0 0] 31)).alloc (.cells #[] 5)) w2.heap.size (.slice (some ⟨w2.heap.size + 1, 0, none⟩) 0 0) [] from own_base (by have := World.ownsRow_made (w2.alloc (.cells #[.int .u8 0, .slice none 0 0] 31)) (base := w2.heap.size + 1) (e := 5) (size := 1) #[] 0 (by simp) (by simp [maxLen]) rfl; simpa [bvs] using this) (by omega)) ((Below.refl _ _).drew)
  have HF2 : Hid (((w2.alloc (.cells #[] 5)).alloc (.cells #[.int .u8 0, .slice none 0 0] 31)).drew.heap[w2.heap.size + 1]? = some (.cells #[.int .u8 0, .slice none 0 0] 31 (0, 0))) := by show _ = _; have := heap_alloc_new (w2.alloc (.cells #[] 5)) (.cells #[.int .u8 0, .slice none 0 0] 31); rw [show (w2.alloc (.cells #[] 5)).heap.size = w2.heap.size + 1 from by simp] at this; exact this
  have HF3 : Hid (((w2.alloc (.cells #[.int .u8 0, .slice none 0 0] 31)).alloc (.cells #[] 5)).drew.heap[w2.heap.size]? = some (.cells #[.int .u8 0, .slice none 0 0] 31 (0, 0))) := by show _ = _; have h1 := heap_alloc_new w2 (.cells #[.int .u8 0, .slice none 0 0] 31); have h2 := ((Below.refl _ (w2.alloc (.cells #[.int .u8 0, .slice none 0 0] 31))).alloc (Nat.le_refl _) (.cells #[] 5)).drew.block w2.heap.size (by simp); exact h2.trans h1
  go_wp2
  go_region_held3 (fun w' => w'.cell? ⟨g, o + 4, none⟩ = some (.int .u8 ((x.toNat : Nat) : Int))) (first | go_keep | exact c4'.out | exact (((Below.refl w'.heap.size w').alloc (Nat.le_refl _) _).cell (p := ⟨g, o + 4, none⟩) (Nat.lt_of_lt_of_le hg hs5)).trans c4'.out | exact (block_ext (Below.heap_setCell _ _ _ _ (by simp; omega)) _).trans ((block_ext (Below.heap_setCell _ _ _ _ (by simp; omega)) _).trans c4'.out)) (first | ((with_reducible refine at_step_append ?_); refine step_appB rfl _ _ _ rfl w2.heap.size _ [] rfl (appB_own HO.out) _ L rfl (src_B (HC3.out.alloc _)) (by simp; omega) (by first | omega | (simp <;> omega)) ?_; intro v' w' k1 k2 k3 k4 k5 k6; have HR := hid (k3 HO.out); obtain ⟨da, dc, rfl⟩ := HR.out.slice; have hb5 := hid k5; have c4' : Hid (w'.cell? ⟨g, o + 4, none⟩ = some (.int .u8 ((x.toNat : Nat) : Int))) := (hb5.out.cell (p := ⟨g, o + 4, none⟩) hg).trans ((((Below.refl w2.heap.size w2).drew.alloc (Nat.le_refl _) (.cells #[] 5)).cell (p := ⟨g, o + 4, none⟩) hg).trans Hc4.out); have hs5 : w2.heap.size ≤ w'.heap.size := (Nat.le_trans (by simp <;> omega) k5.size); clear k1 k2 k3 k4 k5 k6) | ((with_reducible refine at_step_append ?_); refine step_appB rfl _ _ _ rfl w2.heap.size _ [] rfl (appB_own HO2.out) _ L rfl (src_B (((HC2.out.alloc _).alloc _).drew)) (by simp; omega) (by first | omega | (simp <;> omega)) ?_; intro v' w' k1 k2 k3 k4 k5 k6; have HR := hid (k3 HO2.out); have hb5 := hid k5; have c4' : Hid (w'.cell? ⟨g, o + 4, none⟩ = some (.int .u8 ((x.toNat : Nat) : Int))) := (hb5.out.cell (p := ⟨g, o + 4, none⟩) hg).trans (((((Below.refl w2.heap.size w2).alloc (Nat.le_refl _) (.cells #[] 5)).alloc (by simp) (.cells #[.int .u8 0, .slice none 0 0] 31)).drew.cell (p := ⟨g, o + 4, none⟩) hg).trans Hc4.out); have hs5 : w2.heap.size ≤ w'.heap.size := (Nat.le_trans (by simp <;> omega) k5.size); obtain ⟨kf0, kf1, kf2, kf3⟩ := keepF (w2.heap.size + 1) k4 HF2.out (show (some w2.heap.size : Option Nat) ≠ some (w2.heap.size + 1) by simp); have K6 := hid k6; obtain ⟨da, dc, rfl⟩ := HR.out.slice; clear k1 k2 k3 k4 k5 k6) | ((with_reducible refine at_step_append ?_); refine step_appB rfl _ _ _ rfl w2.heap.size _ [] rfl (appB_own HO3.out) _ L rfl (src_B (((HC2.out.alloc _).alloc _).drew)) (by simp; omega) (by first | omega | (simp <;> omega)) ?_; intro v' w' k1 k2 k3 k4 k5 k6; have HR := hid (k3 HO3.out); have hb5 := hid k5; have c4' : Hid (w'.cell? ⟨g, o + 4, none⟩ = some (.int .u8 ((x.toNat : Nat) : Int))) := (hb5.out.cell (p := ⟨g, o + 4, none⟩) hg).trans (((((Below.refl w2.heap.size w2).alloc (Nat.le_refl _) (.cells #[.int .u8 0, .slice none 0 0] 31)).alloc (by simp) (.cells #[] 5)).drew.cell (p := ⟨g, o + 4, none⟩) hg).trans Hc4.out); have hs5 : w2.heap.size ≤ w'.heap.size := (Nat.le_trans (by simp <;> omega) k5.size); obtain ⟨kf0, kf1, kf2, kf3⟩ := keepF w2.heap.size k4 HF3.out (show (some (w2.heap.size + 1) : Option Nat) ≠ some w2.heap.size by simp); have K6 := hid k6; obtain ⟨da, dc, rfl⟩ := HR.out.slice; clear k1 k2 k3 k4 k5 k6))
  · have hsz : w2.heap.size + 1 ≤ w'.heap.size := by have := hb5.out.size; simp at this; omega
    have HBf := hid ((((Below.refl w2.heap.size w2).drew.alloc (Nat.le_refl _) (.cells #[] 5)).trans hb5.out).alloc (by omega) (.cells #[.int .u8 ((x.toNat : Nat) : Int), .slice da L.length dc] 31))
    have HRf : Hid (OwnB (w'.alloc (.cells #[.int .u8 ((x.toNat : Nat) : Int), .slice da L.length dc] 31)) w2.heap.size (.slice da L.length dc) L) := own_belowS HR.out ((Below.refl _ _).alloc (Nat.le_refl _) _)
    have cx0 : (w'.alloc (.cells #[.int .u8 ((x.toNat : Nat) : Int), .slice da L.length dc] 31)).cell? ⟨w'.heap.size, 0, none⟩ = some (.int .u8 ((x.toNat : Nat) : Int)) := by simp [go_sem]
    have cx1 : (w'.alloc (.cells #[.int .u8 ((x.toNat : Nat) : Int), .slice da L.length dc] 31)).cell? ⟨w'.heap.size, 1, none⟩ = some (.slice da L.length dc) := by simp [go_sem]
    have htb : w2.heap.size ≤ w'.heap.size := by omega
    clear hb5 HR
    generalize w'.alloc (.cells #[.int .u8 ((x.toNat : Nat) : Int), .slice da L.length dc] 31) = w5 at *
    generalize w'.heap.size = tb at *
    have hsW := HBf.out.size
    have HV5 := hid (HV2.out.below HBf.out)
    have HS5 := hid (HS2.out.below HBf.out)
    have HWf := hid (HW2.out.trans (HBf.out.mono (by omega)))
    have HB5 := (HBf.out.block w.heap.size (by omega)).trans HB2.out
    have c0 : w5.cell? ⟨w.heap.size, 0, none⟩ = some (.int .u8 0) := by rw [cell_of_row _ _ _ _ _ _ HB5]; rfl
    have c1 : w5.cell? ⟨w.heap.size, 1, none⟩ = some (.slice none 0 0) := by rw [cell_of_row _ _ _ _ _ _ HB5]; rfl
    have g0 : w5.frozen? ⟨w.heap.size, 0, none⟩ = false := frozen_of_row _ _ _ _ _ HB5
    have g1 : w5.frozen? ⟨w.heap.size, 1, none⟩ = false := frozen_of_row _ _ _ _ _ HB5
    clear HB5 HB2 HV2 HS2 HW2 HC2 HC3 HO HO2 HO3 HF2 HF3 hc4 Hc4 W1
    generalize hu : u32F l = r at HF
    obtain ⟨s, se⟩ := r
    generalize hq : sumF ((l.drop 4).take (1 + k + n)) = q at HF
    have HU32 := hid hu
    have HQ := hid hq
    clear hu hq
    rw [show 5 + k + n - 4 = 1 + k + n from by omega] at HS5
    dsimp only at HF
    by_cases hsq : s = q
    · subst hsq
      go_wp2_with (first | (go_at_call 45; go_must (refine (RU32_any _ _ l HV5.out).mono ?_; rw [HU32.out]; dsimp only; rintro e w6 ⟨rfl, rfl⟩)) | ((with_reducible refine at_slice ?_); go_must (refine wl_slice_lh rfl rfl Try.underlying22 sizeU8 rfl rfl rfl 4 (5 + k + n) rfl ?_ ?_ ?_ ?_; omega; omega; omega; rw [show 5 + k + n - 4 = 1 + k + n from by omega])) | (go_at_call 20; go_must (refine (RSum_any _ _ _ HS5.out).mono ?_; rw [HQ.out]; rintro e w6 ⟨rfl, rfl⟩)))
      refine bodyPost_ret (v := .tuple #[.agg #[.int .u8 ((x.toNat : Nat) : Int), .slice da L.length dc], .int .i64 (5 + (k : Int) + (n : Int)), .int .i64 0]) (by simp [results, Try.results46, go_sem, c0, c1]) rfl ?_
      rw [HF.out, if_neg (by simp), if_neg hlong, if_neg hsh, if_neg (by simp), HL.out, HX.out]
      refine ⟨_, by rw [show 5 + (k : Int) + (n : Int) = ((5 + k + n : Nat) : Int) from by omega]; rfl, ?_, (HWf.out.setCell (by simp) _).setCell (by simp) _⟩
      refine OwnB.low (base := w2.heap.size) (own_kept HRf.out fun j hj => ?_) (by omega)
      have hjl : w2.heap.size ≤ j := (HRf.out.lt j hj).1
      rw [Below.heap_setCell _ _ _ _ (by simp; omega), Below.heap_setCell _ _ _ _ (by simp; omega)]
    · have hne : ((s : Int) != (q : Int)) = true := by simp; omega
      go_wp2_with (first | (go_at_call 45; go_must (refine (RU32_any _ _ l HV5.out).mono ?_; rw [HU32.out]; dsimp only; rintro e w6 ⟨rfl, rfl⟩)) | ((with_reducible refine at_slice ?_); go_must (refine wl_slice_lh rfl rfl Try.underlying22 sizeU8 rfl rfl rfl 4 (5 + k + n) rfl ?_ ?_ ?_ ?_; omega; omega; omega; rw [show 5 + k + n - 4 = 1 + k + n from by omega])) | (go_at_call 20; go_must (refine (RSum_any _ _ _ HS5.out).mono ?_; rw [HQ.out]; rintro e w6 ⟨rfl, rfl⟩)))
      refine bodyPost_ret (v := .tuple #[.agg #[.int .u8 0, .slice none 0 0], .int .i64 0, .int .i64 11]) (by simp [results, Try.results46, go_sem, c0, c1]) rfl ?_
      rw [HF.out, if_neg (by simp), if_neg hlong, if_neg hsh, if_pos hsq]
      exact ⟨_, rfl, World.ownsRow_nil _ _ _ _, (HWf.out.setCell (by simp) _).setCell (by simp) _⟩
  · have hsz : w2.heap.size + 2 ≤ w'.heap.size := by have := hb5.out.size; simp at this; omega
    have HBf := hid ((((((Below.refl w2.heap.size w2).alloc (Nat.le_refl _) (.cells #[] 5)).alloc (by simp) (.cells #[.int .u8 0, .slice none 0 0] 31)).drew.trans hb5.out).setCell (p := ⟨w2.heap.size + 1, 0, none⟩) (by simp) (.int .u8 ((x.toNat : Nat) : Int))).setCell (p := ⟨w2.heap.size + 1, 1, none⟩) (by simp) (.slice da L.length dc))
    have HRf : Hid (OwnB ((w'.setCell ⟨w2.heap.size + 1, 0, none⟩ (.int .u8 ((x.toNat : Nat) : Int))).setCell ⟨w2.heap.size + 1, 1, none⟩ (.slice da L.length dc)) w2.heap.size (.slice da L.length dc) L) := own_kept HR.out fun j hj => by
      have hjn : j ≠ w2.heap.size + 1 := by
        rcases K6.out j hj with h | h
        · have h : w2.heap.size = j := Option.some.inj h; omega
        · simp at h; omega
      rw [Below.heap_setCell _ _ _ _ hjn, Below.heap_setCell _ _ _ _ hjn]
    have cx0 : ((w'.setCell ⟨w2.heap.size + 1, 0, none⟩ (.int .u8 ((x.toNat : Nat) : Int))).setCell ⟨w2.heap.size + 1, 1, none⟩ (.slice da L.length dc)).cell? ⟨w2.heap.size + 1, 0, none⟩ = some (.int .u8 ((x.toNat : Nat) : Int)) := by simp [go_sem, kf0, kf1]
    have cx1 : ((w'.setCell ⟨w2.heap.size + 1, 0, none⟩ (.int .u8 ((x.toNat : Nat) : Int))).setCell ⟨w2.heap.size + 1, 1, none⟩ (.slice da L.length dc)).cell? ⟨w2.heap.size + 1, 1, none⟩ = some (.slice da L.length dc) := by simp [go_sem, kf0, kf1]
    have htb : w2.heap.size ≤ w2.heap.size + 1 := by omega
    clear hb5 HR K6 kf0 kf1 kf2 kf3
    generalize (w'.setCell ⟨w2.heap.size + 1, 0, none⟩ (.int .u8 ((x.toNat : Nat) : Int))).setCell ⟨w2.heap.size + 1, 1, none⟩ (.slice da L.length dc) = w5 at *
    generalize w2.heap.size + 1 = tb at *
    have hsW := HBf.out.size
    have HV5 := hid (HV2.out.below HBf.out)
    have HS5 := hid (HS2.out.below HBf.out)
    have HWf := hid (HW2.out.trans (HBf.out.mono (by omega)))
    have HB5 := (HBf.out.block w.heap.size (by omega)).trans HB2.out
    have c0 : w5.cell? ⟨w.heap.size, 0, none⟩ = some (.int .u8 0) := by rw [cell_of_row _ _ _ _ _ _ HB5]; rfl
    have c1 : w5.cell? ⟨w.heap.size, 1, none⟩ = some (.slice none 0 0) := by rw [cell_of_row _ _ _ _ _ _ HB5]; rfl
    have g0 : w5.frozen? ⟨w.heap.size, 0, none⟩ = false := frozen_of_row _ _ _ _ _ HB5
    have g1 : w5.frozen? ⟨w.heap.size, 1, none⟩ = false := frozen_of_row _ _ _ _ _ HB5
    clear HB5 HB2 HV2 HS2 HW2 HC2 HC3 HO HO2 HO3 HF2 HF3 hc4 Hc4 W1
    generalize hu : u32F l = r at HF
    obtain ⟨s, se⟩ := r
    generalize hq : sumF ((l.drop 4).take (1 + k + n)) = q at HF
    have HU32 := hid hu
    have HQ := hid hq
    clear hu hq
    rw [show 5 + k + n - 4 = 1 + k + n from by omega] at HS5
    dsimp only at HF
    by_cases hsq : s = q
    · subst hsq
      go_wp2_with (first | (go_at_call 45; go_must (refine (RU32_any _ _ l HV5.out).mono ?_; rw [HU32.out]; dsimp only; rintro e w6 ⟨rfl, rfl⟩)) | ((with_reducible refine at_slice ?_); go_must (refine wl_slice_lh rfl rfl Try.underlying22 sizeU8 rfl rfl rfl 4 (5 + k + n) rfl ?_ ?_ ?_ ?_; omega; omega; omega; rw [show 5 + k + n - 4 = 1 + k + n from by omega])) | (go_at_call 20; go_must (refine (RSum_any _ _ _ HS5.out).mono ?_; rw [HQ.out]; rintro e w6 ⟨rfl, rfl⟩)))
      refine bodyPost_ret (v := .tuple #[.agg #[.int .u8 ((x.toNat : Nat) : Int), .slice da L.length dc], .int .i64 (5 + (k : Int) + (n : Int)), .int .i64 0]) (by simp [results, Try.results46, go_sem, c0, c1]) rfl ?_
      rw [HF.out, if_neg (by simp), if_neg hlong, if_neg hsh, if_neg (by simp), HL.out, HX.out]
      refine ⟨_, by rw [show 5 + (k : Int) + (n : Int) = ((5 + k + n : Nat) : Int) from by omega]; rfl, ?_, (HWf.out.setCell (by simp) _).setCell (by simp) _⟩
      refine OwnB.low (base := w2.heap.size) (own_kept HRf.out fun j hj => ?_) (by omega)
      have hjl : w2.heap.size ≤ j := (HRf.out.lt j hj).1
      rw [Below.heap_setCell _ _ _ _ (by simp; omega), Below.heap_setCell _ _ _ _ (by simp; omega)]
    · have hne : ((s : Int) != (q : Int)) = true := by simp; omega
      go_wp2_with (first | (go_at_call 45; go_must (refine (RU32_any _ _ l HV5.out).mono ?_; rw [HU32.out]; dsimp only; rintro e w6 ⟨rfl, rfl⟩)) | ((with_reducible refine at_slice ?_); go_must (refine wl_slice_lh rfl rfl Try.underlying22 sizeU8 rfl rfl rfl 4 (5 + k + n) rfl ?_ ?_ ?_ ?_; omega; omega; omega; rw [show 5 + k + n - 4 = 1 + k + n from by omega])) | (go_at_call 20; go_must (refine (RSum_any _ _ _ HS5.out).mono ?_; rw [HQ.out]; rintro e w6 ⟨rfl, rfl⟩)))
      refine bodyPost_ret (v := .tuple #[.agg #[.int .u8 0, .slice none 0 0], .int .i64 0, .int .i64 11]) (by simp [results, Try.results46, go_sem, c0, c1]) rfl ?_
      rw [HF.out, if_neg (by simp), if_neg hlong, if_neg hsh, if_pos hsq]
      exact ⟨_, rfl, World.ownsRow_nil _ _ _ _, (HWf.out.setCell (by simp) _).setCell (by simp) _⟩
  · have hsz : w2.heap.size + 2 ≤ w'.heap.size := by have := hb5.out.size; simp at this; omega
    have HBf := hid ((((((Below.refl w2.heap.size w2).alloc (Nat.le_refl _) (.cells #[.int .u8 0, .slice none 0 0] 31)).alloc (by simp) (.cells #[] 5)).drew.trans hb5.out).setCell (p := ⟨w2.heap.size, 0, none⟩) (by simp) (.int .u8 ((x.toNat : Nat) : Int))).setCell (p := ⟨w2.heap.size, 1, none⟩) (by simp) (.slice da L.length dc))
    have HRf : Hid (OwnB ((w'.setCell ⟨w2.heap.size, 0, none⟩ (.int .u8 ((x.toNat : Nat) : Int))).setCell ⟨w2.heap.size, 1, none⟩ (.slice da L.length dc)) w2.heap.size (.slice da L.length dc) L) := own_kept HR.out fun j hj => by
      have hjn : j ≠ w2.heap.size := by
        rcases K6.out j hj with h | h
        · have h : w2.heap.size + 1 = j := Option.some.inj h; omega
        · simp at h; omega
      rw [Below.heap_setCell _ _ _ _ hjn, Below.heap_setCell _ _ _ _ hjn]
    have cx0 : ((w'.setCell ⟨w2.heap.size, 0, none⟩ (.int .u8 ((x.toNat : Nat) : Int))).setCell ⟨w2.heap.size, 1, none⟩ (.slice da L.length dc)).cell? ⟨w2.heap.size, 0, none⟩ = some (.int .u8 ((x.toNat : Nat) : Int)) := by simp [go_sem, kf0, kf1]
    have cx1 : ((w'.setCell ⟨w2.heap.size, 0, none⟩ (.int .u8 ((x.toNat : Nat) : Int))).setCell ⟨w2.heap.size, 1, none⟩ (.slice da L.length dc)).cell? ⟨w2.heap.size, 1, none⟩ = some (.slice da L.length dc) := by simp [go_sem, kf0, kf1]
    have htb : w2.heap.size ≤ w2.heap.size := by omega
    clear hb5 HR K6 kf0 kf1 kf2 kf3
    generalize (w'.setCell ⟨w2.heap.size, 0, none⟩ (.int .u8 ((x.toNat : Nat) : Int))).setCell ⟨w2.heap.size, 1, none⟩ (.slice da L.length dc) = w5 at *
    have n01 : ¬ w2.heap.size = w.heap.size := by omega
    have n02 : ¬ w.heap.size = w2.heap.size := by omega
    have hsW := HBf.out.size
    have HV5 := hid (HV2.out.below HBf.out)
    have HS5 := hid (HS2.out.below HBf.out)
    have HWf := hid (HW2.out.trans (HBf.out.mono (by omega)))
    have HB5 := (HBf.out.block w.heap.size (by omega)).trans HB2.out
    have c0 : w5.cell? ⟨w.heap.size, 0, none⟩ = some (.int .u8 0) := by rw [cell_of_row _ _ _ _ _ _ HB5]; rfl
    have c1 : w5.cell? ⟨w.heap.size, 1, none⟩ = some (.slice none 0 0) := by rw [cell_of_row _ _ _ _ _ _ HB5]; rfl
    have g0 : w5.frozen? ⟨w.heap.size, 0, none⟩ = false := frozen_of_row _ _ _ _ _ HB5
    have g1 : w5.frozen? ⟨w.heap.size, 1, none⟩ = false := frozen_of_row _ _ _ _ _ HB5
    clear HB5 HB2 HV2 HS2 HW2 HC2 HC3 HO HO2 HO3 HF2 HF3 hc4 Hc4 W1
    generalize hu : u32F l = r at HF
    obtain ⟨s, se⟩ := r
    generalize hq : sumF ((l.drop 4).take (1 + k + n)) = q at HF
    have HU32 := hid hu
    have HQ := hid hq
    clear hu hq
    rw [show 5 + k + n - 4 = 1 + k + n from by omega] at HS5
    dsimp only at HF
    by_cases hsq : s = q
    · subst hsq
      go_wp2_with (first | (go_at_call 45; go_must (refine (RU32_any _ _ l HV5.out).mono ?_; rw [HU32.out]; dsimp only; rintro e w6 ⟨rfl, rfl⟩)) | ((with_reducible refine at_slice ?_); go_must (refine wl_slice_lh rfl rfl Try.underlying22 sizeU8 rfl rfl rfl 4 (5 + k + n) rfl ?_ ?_ ?_ ?_; omega; omega; omega; rw [show 5 + k + n - 4 = 1 + k + n from by omega])) | (go_at_call 20; go_must (refine (RSum_any _ _ _ HS5.out).mono ?_; rw [HQ.out]; rintro e w6 ⟨rfl, rfl⟩)))
      refine bodyPost_ret (v := .tuple #[.agg #[.int .u8 ((x.toNat : Nat) : Int), .slice da L.length dc], .int .i64 (5 + (k : Int) + (n : Int)), .int .i64 0]) (by simp [results, Try.results46, go_sem, c0, c1]) rfl ?_
      rw [HF.out, if_neg (by simp), if_neg hlong, if_neg hsh, if_neg (by simp), HL.out, HX.out]
      refine ⟨_, by rw [show 5 + (k : Int) + (n : Int) = ((5 + k + n : Nat) : Int) from by omega]; rfl, ?_, (HWf.out.setCell (by simp) _).setCell (by simp) _⟩
      refine OwnB.low (base := w2.heap.size) (own_kept HRf.out fun j hj => ?_) (by omega)
      have hjl : w2.heap.size ≤ j := (HRf.out.lt j hj).1
      rw [Below.heap_setCell _ _ _ _ (by simp; omega), Below.heap_setCell _ _ _ _ (by simp; omega)]
    · have hne : ((s : Int) != (q : Int)) = true := by simp; omega
      go_wp2_with (first | (go_at_call 45; go_must (refine (RU32_any _ _ l HV5.out).mono ?_; rw [HU32.out]; dsimp only; rintro e w6 ⟨rfl, rfl⟩)) | ((with_reducible refine at_slice ?_); go_must (refine wl_slice_lh rfl rfl Try.underlying22 sizeU8 rfl rfl rfl 4 (5 + k + n) rfl ?_ ?_ ?_ ?_; omega; omega; omega; rw [show 5 + k + n - 4 = 1 + k + n from by omega])) | (go_at_call 20; go_must (refine (RSum_any _ _ _ HS5.out).mono ?_; rw [HQ.out]; rintro e w6 ⟨rfl, rfl⟩)))
      refine bodyPost_ret (v := .tuple #[.agg #[.int .u8 0, .slice none 0 0], .int .i64 0, .int .i64 11]) (by simp [results, Try.results46, go_sem, c0, c1]) rfl ?_
      rw [HF.out, if_neg (by simp), if_neg hlong, if_neg hsh, if_pos hsq]
      exact ⟨_, rfl, World.ownsRow_nil _ _ _ _, (HWf.out.setCell (by simp) _).setCell (by simp) _⟩

set_option maxRecDepth 100000 in
set_option maxHeartbeats 1000000 in
theorem RFrame_any (w : World) (v : Value) (l : List UInt8) (hv : RdB w v l) (hl : l.length ≤ 140737488355328) :
    Calls Try.prog 46 #[v] w (FrameEnd (frameF l) w) := by
  by_cases h5 : l.length < 5
  · exact RFrame_short w v l hv hl h5
  · have hfc := uintF_facts (l.drop 5)
    generalize hU : uintF (l.drop 5) = r at hfc
    obtain ⟨n, k, er⟩ := r
    obtain ⟨f1, f2, f3, f4⟩ := hfc
    dsimp only at f1 f2 f3 f4
    rcases f4 with ⟨rfl, _⟩ | ⟨f4, rfl, rfl⟩
    · by_cases hlong : 2000 < n
      · exact RFrame_long w v l hv hl h5 n k hU hlong
      · by_cases hsh : l.length - 5 - k < n
        · exact RFrame_cut w v l hv hl h5 n k hU hlong hsh
        · exact RFrame_rest w v l hv hl h5 n k hU hlong hsh
    · rcases f4 with rfl | rfl
      · exact RFrame_err10 w v l hv hl h5 hU
      · exact RFrame_err11 w v l hv hl h5 hU
end Go.Proofs.Ythmpikbbkoblfaa
