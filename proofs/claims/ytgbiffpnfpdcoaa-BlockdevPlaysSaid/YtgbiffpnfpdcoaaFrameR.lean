/- The walk of codec.Frame. -/
import Derived.Test.YtgbiffpnfpdcoaaFrame
namespace Go.Proofs.Ytgbiffpnfpdcoaa
open Go.RowKit
set_option linter.unusedVariables false
set_option linter.unusedSimpArgs false
attribute [local go_sem ↓] Go.wp_at_zero Go.wp_at_succ

/-- the ending of a call that reads a frame -/
def FrameEnd (f : Fr) (w : World) (e : Ending) (w' : World) : Prop :=
  ∃ dv, e = .returned (.tuple #[.agg #[.int .u8 ((f.kind.toNat : Nat) : Int), dv], .int .i64 ((f.n : Nat) : Int), .int .i64 ((f.e : Nat) : Int)]) ∧ OwnB w' w.heap.size dv f.data ∧ Below w.heap.size w w'

set_option maxRecDepth 100000 in
set_option maxHeartbeats 1000000 in
theorem Frame_short (w : World) (v : Value) (l : List UInt8) (hv : RdB w v l) (hl : l.length ≤ 140737488355328) (h5 : l.length < 5) :
    Calls Try.prog 89 #[v] w (FrameEnd (frameF l) w) := by
  obtain ⟨a, cap, rfl, h1, h2, h3, h4⟩ := id hv
  have h2 : cap ≤ 9223372036854775807 := by unfold maxLen at h2; omega
  have HV := hid (hv.alloc (.cells #[.int .u8 0, .slice none 0 0] 138))
  clear h4
  go_enter Try.func89, Try.ntmps89
  go_wp2
  refine bodyPost_ret (v := .tuple #[.agg #[.int .u8 0, .slice none 0 0], .int .i64 0, .int .i64 10]) (by simp [results, Try.results89, go_sem]) rfl ?_
  rw [frameF, if_pos h5]
  refine ⟨_, rfl, World.ownsRow_nil _ _ _ _, ?_⟩
  exact (Below.refl _ _).alloc (Nat.le_refl _) _

set_option maxRecDepth 100000 in
set_option maxHeartbeats 1000000 in
theorem Frame_long (w : World) (v : Value) (l : List UInt8) (hv : RdB w v l) (hl : l.length ≤ 140737488355328) (h5 : ¬l.length < 5) (n k : Nat) (hU : uintF (l.drop 5) = (n, k, 0)) (hlong : 2000 < n) :
    Calls Try.prog 89 #[v] w (FrameEnd (frameF l) w) := by
  obtain ⟨a, cap, rfl, h1, h2, h3, h4⟩ := id hv
  have h2 : cap ≤ 9223372036854775807 := by unfold maxLen at h2; omega
  have HV := hid (hv.alloc (.cells #[.int .u8 0, .slice none 0 0] 138))
  clear h4
  have hd := RdB.drop HV.out 5 (by omega)
  have hfc := uintF_facts (l.drop 5)
  rw [hU] at hfc
  obtain ⟨f1, f2, f3, f4⟩ := hfc
  dsimp only at f1 f2 f3 f4
  have HU := hid hU
  have hlen : (l.drop 5).length = l.length - 5 := by simp
  have HD := hid hd
  clear hd hU
  have HF : Hid (frameF l = if 0 ≠ 0 then ⟨0, [], 0, 0⟩ else if 2000 < n then ⟨0, [], 0, 12⟩ else if l.length - 5 - k < n then ⟨0, [], 0, 10⟩
      else if (u32F l).1 ≠ sumF ((l.drop 4).take (1 + k + n)) then ⟨0, [], 0, 11⟩ else ⟨l.getD 4 0, (l.drop (5 + k)).take n, 5 + k + n, 0⟩) := by
    show _ = _
    rw [frameF, if_neg h5, HU.out]
  go_enter Try.func89, Try.ntmps89
  go_wp2_with (first | ((with_reducible refine at_slice ?_); go_must (refine wl_slice_l rfl rfl Try.underlying22 sizeU8 rfl rfl 5 rfl ?_ ?_; omega)) | (go_at_call 69; go_must (refine (Uint_any _ _ (l.drop 5) HD.out).mono ?_; rintro e w1 ⟨rfl, rfl⟩; rw [HU.out]; dsimp only) ))
  refine bodyPost_ret (v := .tuple #[.agg #[.int .u8 0, .slice none 0 0], .int .i64 0, .int .i64 12]) (by simp [results, Try.results89, go_sem]) rfl ?_
  rw [HF.out, if_neg (by simp), if_pos hlong]
  exact ⟨_, rfl, World.ownsRow_nil _ _ _ _, (Below.refl _ _).alloc (Nat.le_refl _) _⟩

set_option maxRecDepth 100000 in
set_option maxHeartbeats 1000000 in
theorem Frame_cut (w : World) (v : Value) (l : List UInt8) (hv : RdB w v l) (hl : l.length ≤ 140737488355328) (h5 : ¬l.length < 5) (n k : Nat) (hU : uintF (l.drop 5) = (n, k, 0)) (hlong : ¬2000 < n) (hsh : l.length - 5 - k < n) :
    Calls Try.prog 89 #[v] w (FrameEnd (frameF l) w) := by
  obtain ⟨a, cap, rfl, h1, h2, h3, h4⟩ := id hv
  have h2 : cap ≤ 9223372036854775807 := by unfold maxLen at h2; omega
  have HV := hid (hv.alloc (.cells #[.int .u8 0, .slice none 0 0] 138))
  clear h4
  have hd := RdB.drop HV.out 5 (by omega)
  have hfc := uintF_facts (l.drop 5)
  rw [hU] at hfc
  obtain ⟨f1, f2, f3, f4⟩ := hfc
  dsimp only at f1 f2 f3 f4
  have HU := hid hU
  have hlen : (l.drop 5).length = l.length - 5 := by simp
  have HD := hid hd
  clear hd hU
  have HF : Hid (frameF l = if 0 ≠ 0 then ⟨0, [], 0, 0⟩ else if 2000 < n then ⟨0, [], 0, 12⟩ else if l.length - 5 - k < n then ⟨0, [], 0, 10⟩
      else if (u32F l).1 ≠ sumF ((l.drop 4).take (1 + k + n)) then ⟨0, [], 0, 11⟩ else ⟨l.getD 4 0, (l.drop (5 + k)).take n, 5 + k + n, 0⟩) := by
    show _ = _
    rw [frameF, if_neg h5, HU.out]
  go_enter Try.func89, Try.ntmps89
  go_wp2_with (first | ((with_reducible refine at_slice ?_); go_must (refine wl_slice_l rfl rfl Try.underlying22 sizeU8 rfl rfl 5 rfl ?_ ?_; omega)) | (go_at_call 69; go_must (refine (Uint_any _ _ (l.drop 5) HD.out).mono ?_; rintro e w1 ⟨rfl, rfl⟩; rw [HU.out]; dsimp only) ))
  refine bodyPost_ret (v := .tuple #[.agg #[.int .u8 0, .slice none 0 0], .int .i64 0, .int .i64 10]) (by simp [results, Try.results89, go_sem]) rfl ?_
  rw [HF.out, if_neg (by simp), if_neg hlong, if_pos hsh]
  exact ⟨_, rfl, World.ownsRow_nil _ _ _ _, (Below.refl _ _).alloc (Nat.le_refl _) _⟩

set_option maxRecDepth 100000 in
set_option maxHeartbeats 1000000 in
theorem Frame_bad (w : World) (v : Value) (l : List UInt8) (hv : RdB w v l) (hl : l.length ≤ 140737488355328) (h5 : ¬l.length < 5) (n k : Nat) (hU : uintF (l.drop 5) = (n, k, 0)) (hlong : ¬2000 < n) (hsh : ¬l.length - 5 - k < n) (hsum : (u32F l).1 ≠ sumF ((l.drop 4).take (1 + k + n))) :
    Calls Try.prog 89 #[v] w (FrameEnd (frameF l) w) := by
  obtain ⟨a, cap, rfl, h1, h2, h3, h4⟩ := id hv
  have h2 : cap ≤ 9223372036854775807 := by unfold maxLen at h2; omega
  have HV := hid (hv.alloc (.cells #[.int .u8 0, .slice none 0 0] 138))
  clear h4
  have hd := RdB.drop HV.out 5 (by omega)
  have hfc := uintF_facts (l.drop 5)
  rw [hU] at hfc
  obtain ⟨f1, f2, f3, f4⟩ := hfc
  dsimp only at f1 f2 f3 f4
  have HU := hid hU
  have hlen : (l.drop 5).length = l.length - 5 := by simp
  have HD := hid hd
  clear hd hU
  have HF : Hid (frameF l = if 0 ≠ 0 then ⟨0, [], 0, 0⟩ else if 2000 < n then ⟨0, [], 0, 12⟩ else if l.length - 5 - k < n then ⟨0, [], 0, 10⟩
      else if (u32F l).1 ≠ sumF ((l.drop 4).take (1 + k + n)) then ⟨0, [], 0, 11⟩ else ⟨l.getD 4 0, (l.drop (5 + k)).take n, 5 + k + n, 0⟩) := by
    show _ = _
    rw [frameF, if_neg h5, HU.out]
  have HS := hid (RdB.cut HV.out 4 (5 + k + n) (by omega) (by omega))
  have HC := hid (RdB.cut HV.out (5 + k) (5 + k + n) (by omega) (by omega))
  have HB : Hid ((w.alloc (.cells #[.int .u8 0, .slice none 0 0] 138)).heap[w.heap.size]? = some (.cells #[.int .u8 0, .slice none 0 0] 138 (0, 0))) := heap_alloc_new w _
  have HW : Hid (Below w.heap.size w (w.alloc (.cells #[.int .u8 0, .slice none 0 0] 138))) := (Below.refl _ _).alloc (Nat.le_refl _) _
  go_enter Try.func89, Try.ntmps89
  go_wp2_with (first | ((with_reducible refine at_slice ?_); go_must (refine wl_slice_l rfl rfl Try.underlying22 sizeU8 rfl rfl 5 rfl ?_ ?_; omega)) | (go_at_call 69; go_must (refine (Uint_any _ _ (l.drop 5) HD.out).mono ?_; rintro e w1 ⟨rfl, rfl⟩; rw [HU.out]; dsimp only)))
  refine (U32_any _ _ l HV.out).mono ?_
  rintro e w2 ⟨rfl, hb2⟩
  have hs2 := hb2.size
  simp only [World.alloc, Array.size_push] at hs2
  have HB2 := hid ((hb2.block w.heap.size (by simp)).trans HB.out)
  have HV2 := hid (HV.out.below hb2)
  have HS2 := hid (HS.out.below hb2)
  have HC2 := hid (HC.out.below hb2)
  have HW2 := hid (HW.out.trans (hb2.mono (by simp)))
  generalize hu : u32F l = r
  obtain ⟨s, se⟩ := r
  dsimp only
  have HU32 := hid hu
  clear hb2 HV HS HC HW HB hu
  go_wp2_with (((with_reducible refine at_slice ?_); go_must (refine wl_slice_lh rfl rfl Try.underlying22 sizeU8 rfl rfl rfl 4 (5 + k + n) rfl (by omega) ?_ ?_ ?_; omega; omega)))
  rw [show 5 + k + n - 4 = 1 + k + n from by omega] at HS2 ⊢
  refine (Sum_any _ _ _ HS2.out).mono ?_
  rintro e w3 ⟨rfl, hb3⟩
  have hs3 := hb3.size
  have hBw : w.heap.size < w3.heap.size := by omega
  have HB3 := (hb3.block w.heap.size (by omega)).trans HB2.out
  have HV3 := hid (HV2.out.below hb3)
  have HC3 := hid (HC2.out.below hb3)
  have HW3 := hid (HW2.out.trans (hb3.mono (by omega)))
  have c0 : w3.cell? ⟨w.heap.size, 0, none⟩ = some (.int .u8 0) := by rw [cell_of_row _ _ _ _ _ _ HB3]; rfl
  have c1 : w3.cell? ⟨w.heap.size, 1, none⟩ = some (.slice none 0 0) := by rw [cell_of_row _ _ _ _ _ _ HB3]; rfl
  have g0 : w3.frozen? ⟨w.heap.size, 0, none⟩ = false := frozen_of_row _ _ _ _ _ HB3
  have g1 : w3.frozen? ⟨w.heap.size, 1, none⟩ = false := frozen_of_row _ _ _ _ _ HB3
  have HB3' := hid HB3
  generalize hq : sumF ((l.drop 4).take (1 + k + n)) = q
  have HQ := hid hq
  clear hb3 HB2 HV2 HS2 HC2 HW2 HB3 hq hs2
  have hsq : ¬ s = q := by have := hsum; rw [HU32.out, HQ.out] at this; exact this
  clear hsum
  have hne : ((s : Int) != (q : Int)) = true := by simp; omega
  go_wp2
  refine bodyPost_ret (v := .tuple #[.agg #[.int .u8 0, .slice none 0 0], .int .i64 0, .int .i64 11]) (by simp [results, Try.results89, go_sem, c0, c1]) rfl ?_
  rw [HF.out, if_neg (by simp), if_neg hlong, if_neg hsh, HU32.out, HQ.out, if_pos hsq]
  exact ⟨_, rfl, World.ownsRow_nil _ _ _ _, (HW3.out.setCell (by simp) _).setCell (by simp) _⟩

set_option maxRecDepth 100000 in
set_option maxHeartbeats 1000000 in
theorem Frame_good (w : World) (v : Value) (l : List UInt8) (hv : RdB w v l) (hl : l.length ≤ 140737488355328) (h5 : ¬l.length < 5) (n k : Nat) (hU : uintF (l.drop 5) = (n, k, 0)) (hlong : ¬2000 < n) (hsh : ¬l.length - 5 - k < n) (hsum : (u32F l).1 = sumF ((l.drop 4).take (1 + k + n))) :
    Calls Try.prog 89 #[v] w (FrameEnd (frameF l) w) := by
  obtain ⟨a, cap, rfl, h1, h2, h3, h4⟩ := id hv
  have h2 : cap ≤ 9223372036854775807 := by unfold maxLen at h2; omega
  have HV := hid (hv.alloc (.cells #[.int .u8 0, .slice none 0 0] 138))
  clear h4
  have hd := RdB.drop HV.out 5 (by omega)
  have hfc := uintF_facts (l.drop 5)
  rw [hU] at hfc
  obtain ⟨f1, f2, f3, f4⟩ := hfc
  dsimp only at f1 f2 f3 f4
  have HU := hid hU
  have hlen : (l.drop 5).length = l.length - 5 := by simp
  have HD := hid hd
  clear hd hU
  have HF : Hid (frameF l = if 0 ≠ 0 then ⟨0, [], 0, 0⟩ else if 2000 < n then ⟨0, [], 0, 12⟩ else if l.length - 5 - k < n then ⟨0, [], 0, 10⟩
      else if (u32F l).1 ≠ sumF ((l.drop 4).take (1 + k + n)) then ⟨0, [], 0, 11⟩ else ⟨l.getD 4 0, (l.drop (5 + k)).take n, 5 + k + n, 0⟩) := by
    show _ = _
    rw [frameF, if_neg h5, HU.out]
  have HS := hid (RdB.cut HV.out 4 (5 + k + n) (by omega) (by omega))
  have HC := hid (RdB.cut HV.out (5 + k) (5 + k + n) (by omega) (by omega))
  have HB : Hid ((w.alloc (.cells #[.int .u8 0, .slice none 0 0] 138)).heap[w.heap.size]? = some (.cells #[.int .u8 0, .slice none 0 0] 138 (0, 0))) := heap_alloc_new w _
  have HW : Hid (Below w.heap.size w (w.alloc (.cells #[.int .u8 0, .slice none 0 0] 138))) := (Below.refl _ _).alloc (Nat.le_refl _) _
  go_enter Try.func89, Try.ntmps89
  go_wp2_with (first | ((with_reducible refine at_slice ?_); go_must (refine wl_slice_l rfl rfl Try.underlying22 sizeU8 rfl rfl 5 rfl ?_ ?_; omega)) | (go_at_call 69; go_must (refine (Uint_any _ _ (l.drop 5) HD.out).mono ?_; rintro e w1 ⟨rfl, rfl⟩; rw [HU.out]; dsimp only)))
  refine (U32_any _ _ l HV.out).mono ?_
  rintro e w2 ⟨rfl, hb2⟩
  have hs2 := hb2.size
  simp only [World.alloc, Array.size_push] at hs2
  have HB2 := hid ((hb2.block w.heap.size (by simp)).trans HB.out)
  have HV2 := hid (HV.out.below hb2)
  have HS2 := hid (HS.out.below hb2)
  have HC2 := hid (HC.out.below hb2)
  have HW2 := hid (HW.out.trans (hb2.mono (by simp)))
  generalize hu : u32F l = r
  obtain ⟨s, se⟩ := r
  dsimp only
  have HU32 := hid hu
  clear hb2 HV HS HC HW HB hu
  go_wp2_with (((with_reducible refine at_slice ?_); go_must (refine wl_slice_lh rfl rfl Try.underlying22 sizeU8 rfl rfl rfl 4 (5 + k + n) rfl (by omega) ?_ ?_ ?_; omega; omega)))
  rw [show 5 + k + n - 4 = 1 + k + n from by omega] at HS2 ⊢
  refine (Sum_any _ _ _ HS2.out).mono ?_
  rintro e w3 ⟨rfl, hb3⟩
  have hs3 := hb3.size
  have hBw : w.heap.size < w3.heap.size := by omega
  have HB3 := (hb3.block w.heap.size (by omega)).trans HB2.out
  have HV3 := hid (HV2.out.below hb3)
  have HC3 := hid (HC2.out.below hb3)
  have HW3 := hid (HW2.out.trans (hb3.mono (by omega)))
  have c0 : w3.cell? ⟨w.heap.size, 0, none⟩ = some (.int .u8 0) := by rw [cell_of_row _ _ _ _ _ _ HB3]; rfl
  have c1 : w3.cell? ⟨w.heap.size, 1, none⟩ = some (.slice none 0 0) := by rw [cell_of_row _ _ _ _ _ _ HB3]; rfl
  have g0 : w3.frozen? ⟨w.heap.size, 0, none⟩ = false := frozen_of_row _ _ _ _ _ HB3
  have g1 : w3.frozen? ⟨w.heap.size, 1, none⟩ = false := frozen_of_row _ _ _ _ _ HB3
  have HB3' := hid HB3
  generalize hq : sumF ((l.drop 4).take (1 + k + n)) = q
  have HQ := hid hq
  clear hb3 HB2 HV2 HS2 HC2 HW2 HB3 hq hs2
  have hsq : s = q := by have := hsum; rw [HU32.out, HQ.out] at this; exact this
  clear hsum
  subst hsq
  obtain ⟨_, _, e4, _, _, _, h4⟩ := id HV3.out
  simp only [Value.slice.injEq, true_and] at e4
  obtain ⟨rfl, rfl⟩ := e4
  obtain ⟨g, o, rfl, hg, hc⟩ := h4 (by omega)
  have hc4 : w3.cell? ⟨g, o + 4, none⟩ = some (.int .u8 ((l.getD 4 0).toNat : Int)) := by
    rw [hc 4 (by omega), bvs_get l 4 (by omega), List.getD_eq_getElem?_getD, List.getElem?_eq_getElem (by omega)]; rfl
  have b4 : (4 : Int) < (l.length : Int) := by omega
  have w1 : IntKind.i64.wrap (5 + (k : Int)) = 5 + (k : Int) := by rw [IntKind.wrap_i64]; omega
  have b5 : (0 : Int) ≤ 5 + (k : Int) := by omega
  have b6 : 5 + (k : Int) ≤ 5 + (k : Int) + (n : Int) := by omega
  have b7 : 5 + (k : Int) + (n : Int) ≤ (cap : Int) := by omega
  have b8 : (0 : Int) ≤ 5 + (k : Int) + (n : Int) := by omega
  generalize hx : l.getD 4 0 = x at hc4
  have HX := hid hx
  clear h4 hc hx
  have t1 : (5 + (k : Int)).toNat = 5 + k := by omega
  have t2 : (5 + (k : Int) + (n : Int)).toNat = 5 + k + n := by omega
  have t3 : (if cap = 5 + k then some (⟨g, o, none⟩ : Addr) else some ⟨g, o + (5 + k), none⟩) = cutAt (some ⟨g, o, none⟩) cap (5 + k) 1 := by
    unfold cutAt
    split
    · rfl
    · simp [Addr.add]
  have t4 : 5 + k + n - (5 + k) = n := by omega
  rw [t4] at HC3
  have HC4 := hid HC3.out.drew
  have HC5 := hid HC4.out.full
  have hgB := RdB.lt hv (by omega)
  have hgn : ¬ g = w.heap.size := by omega
  generalize hL : (l.drop (5 + k)).take n = L at HC5 HC4 HC3
  have hln : L.length ≤ 140737488355328 := by rw [← hL]; simp; omega
  have HL := hid hL
  clear hL HC3 HC4
  have Hc4 := hid hc4
  have hg3 : g < w3.heap.size := hg
  go_wp2
  go_region_held3 (fun w' => w'.cell? ⟨g, o + 4, none⟩ = some (.int .u8 ((x.toNat : Nat) : Int))) (first | go_keep | exact (hb4.cell (p := ⟨g, o + 4, none⟩) (by simpa using hg3)).trans Hc4.out | exact (block_ext (Below.heap_setCell _ _ _ _ hgn) _).trans ((block_ext (Below.heap_setCell _ _ _ _ hgn) _).trans c4')) (first | (go_at_call 95; go_must (refine (room_any _ n (cap - (5 + k)) _ (by omega) (by omega)).mono ?_; rintro e w' ⟨rfl, rfl⟩)) | (go_at_call 73; go_must (refine (Clone_any _ _ L HC5.out hln).mono ?_; rintro e w4 ⟨dv, rfl, ho4, hb4⟩; obtain ⟨da, dc, rfl⟩ := ho4.slice; have c0' := (hb4.cell (p := ⟨w.heap.size, 0, none⟩) (by simp; omega)).trans ((World.cell?_drew _ _).trans c0); have c1' := (hb4.cell (p := ⟨w.heap.size, 1, none⟩) (by simp; omega)).trans ((World.cell?_drew _ _).trans c1); have g0' := (hb4.frozen (p := ⟨w.heap.size, 0, none⟩) (by simp; omega)).trans ((World.frozen?_drew _ _).trans g0); have g1' := (hb4.frozen (p := ⟨w.heap.size, 1, none⟩) (by simp; omega)).trans ((World.frozen?_drew _ _).trans g1); have c4' := (hb4.cell (p := ⟨g, o + 4, none⟩) (by simpa using hg3)).trans Hc4.out; have HO4 := hid ho4; clear ho4)))
  go_wp2
  refine bodyPost_ret (v := .tuple #[.agg #[.int .u8 ((x.toNat : Nat) : Int), .slice da L.length dc], .int .i64 (5 + (k : Int) + (n : Int)), .int .i64 0]) (by simp [results, Try.results89, go_sem, c0', c1']) rfl ?_
  rw [HF.out, if_neg (by simp), if_neg hlong, if_neg hsh, HU32.out, HQ.out, if_neg (by simp), HL.out, HX.out]
  refine ⟨_, by rw [show 5 + (k : Int) + (n : Int) = ((5 + k + n : Nat) : Int) from by omega]; rfl, ?_, ((HW3.out.drew.trans (hb4.mono (B' := w.heap.size) (by simp; omega))).setCell (by simp) _).setCell (by simp) _⟩
  refine OwnB.low (base := w3.heap.size) (own_kept HO4.out fun j hj => ?_) (by omega)
  have hjl := HO4.out.lt j hj
  have hjl2 : w3.heap.size ≤ j := hjl.1
  clear hjl
  rw [Below.heap_setCell _ _ _ _ (by simp; omega), Below.heap_setCell _ _ _ _ (by simp; omega)]

set_option maxRecDepth 100000 in
set_option maxHeartbeats 1000000 in
theorem Frame_err10 (w : World) (v : Value) (l : List UInt8) (hv : RdB w v l) (hl : l.length ≤ 140737488355328) (h5 : ¬l.length < 5) (hU : uintF (l.drop 5) = (0, 0, 10)) :
    Calls Try.prog 89 #[v] w (FrameEnd (frameF l) w) := by
  obtain ⟨a, cap, rfl, h1, h2, h3, h4⟩ := id hv
  have h2 : cap ≤ 9223372036854775807 := by unfold maxLen at h2; omega
  have HV := hid (hv.alloc (.cells #[.int .u8 0, .slice none 0 0] 138))
  clear h4
  have hd := RdB.drop HV.out 5 (by omega)
  have hfc := uintF_facts (l.drop 5)
  rw [hU] at hfc
  obtain ⟨f1, f2, f3, f4⟩ := hfc
  dsimp only at f1 f2 f3 f4
  have HU := hid hU
  have hlen : (l.drop 5).length = l.length - 5 := by simp
  have HD := hid hd
  clear hd hU
  have HF : Hid (frameF l = ⟨0, [], 0, 10⟩) := by
    show _ = _
    rw [frameF, if_neg h5, if_pos (by rw [HU.out]; simp), HU.out]
  clear f1 f2 f3 f4
  go_enter Try.func89, Try.ntmps89
  go_wp2_with (first | ((with_reducible refine at_slice ?_); go_must (refine wl_slice_l rfl rfl Try.underlying22 sizeU8 rfl rfl 5 rfl ?_ ?_; omega)) | (go_at_call 69; go_must (refine (Uint_any _ _ (l.drop 5) HD.out).mono ?_; rintro e w1 ⟨rfl, rfl⟩; rw [HU.out]; dsimp only) ))
  refine bodyPost_ret (v := .tuple #[.agg #[.int .u8 0, .slice none 0 0], .int .i64 0, .int .i64 10]) (by simp [results, Try.results89, go_sem]) rfl ?_
  rw [HF.out]
  exact ⟨_, rfl, World.ownsRow_nil _ _ _ _, (Below.refl _ _).alloc (Nat.le_refl _) _⟩

set_option maxRecDepth 100000 in
set_option maxHeartbeats 1000000 in
theorem Frame_err11 (w : World) (v : Value) (l : List UInt8) (hv : RdB w v l) (hl : l.length ≤ 140737488355328) (h5 : ¬l.length < 5) (hU : uintF (l.drop 5) = (0, 0, 11)) :
    Calls Try.prog 89 #[v] w (FrameEnd (frameF l) w) := by
  obtain ⟨a, cap, rfl, h1, h2, h3, h4⟩ := id hv
  have h2 : cap ≤ 9223372036854775807 := by unfold maxLen at h2; omega
  have HV := hid (hv.alloc (.cells #[.int .u8 0, .slice none 0 0] 138))
  clear h4
  have hd := RdB.drop HV.out 5 (by omega)
  have hfc := uintF_facts (l.drop 5)
  rw [hU] at hfc
  obtain ⟨f1, f2, f3, f4⟩ := hfc
  dsimp only at f1 f2 f3 f4
  have HU := hid hU
  have hlen : (l.drop 5).length = l.length - 5 := by simp
  have HD := hid hd
  clear hd hU
  have HF : Hid (frameF l = ⟨0, [], 0, 11⟩) := by
    show _ = _
    rw [frameF, if_neg h5, if_pos (by rw [HU.out]; simp), HU.out]
  clear f1 f2 f3 f4
  go_enter Try.func89, Try.ntmps89
  go_wp2_with (first | ((with_reducible refine at_slice ?_); go_must (refine wl_slice_l rfl rfl Try.underlying22 sizeU8 rfl rfl 5 rfl ?_ ?_; omega)) | (go_at_call 69; go_must (refine (Uint_any _ _ (l.drop 5) HD.out).mono ?_; rintro e w1 ⟨rfl, rfl⟩; rw [HU.out]; dsimp only) ))
  refine bodyPost_ret (v := .tuple #[.agg #[.int .u8 0, .slice none 0 0], .int .i64 0, .int .i64 11]) (by simp [results, Try.results89, go_sem]) rfl ?_
  rw [HF.out]
  exact ⟨_, rfl, World.ownsRow_nil _ _ _ _, (Below.refl _ _).alloc (Nat.le_refl _) _⟩

set_option maxRecDepth 100000 in
set_option maxHeartbeats 1000000 in
theorem Frame_any (w : World) (v : Value) (l : List UInt8) (hv : RdB w v l) (hl : l.length ≤ 140737488355328) :
    Calls Try.prog 89 #[v] w (FrameEnd (frameF l) w) := by
  by_cases h5 : l.length < 5
  · exact Frame_short w v l hv hl h5
  · have hfc := uintF_facts (l.drop 5)
    generalize hU : uintF (l.drop 5) = r at hfc
    obtain ⟨n, k, er⟩ := r
    obtain ⟨f1, f2, f3, f4⟩ := hfc
    dsimp only at f1 f2 f3 f4
    rcases f4 with ⟨rfl, _⟩ | ⟨f4, rfl, rfl⟩
    · by_cases hlong : 2000 < n
      · exact Frame_long w v l hv hl h5 n k hU hlong
      · by_cases hsh : l.length - 5 - k < n
        · exact Frame_cut w v l hv hl h5 n k hU hlong hsh
        · by_cases hsum : (u32F l).1 = sumF ((l.drop 4).take (1 + k + n))
          · exact Frame_good w v l hv hl h5 n k hU hlong hsh hsum
          · exact Frame_bad w v l hv hl h5 n k hU hlong hsh hsum
    · rcases f4 with rfl | rfl
      · exact Frame_err10 w v l hv hl h5 hU
      · exact Frame_err11 w v l hv hl h5 hU
end Go.Proofs.Ytgbiffpnfpdcoaa
