/- cartularylaw02.Block and cartularyref02.Noughts, walked. -/
import Derived.Test.YtgbiffpnfpdcoaaSuD
import Derived.Test.YtgbiffpnfpdcoaaPick
import Derived.Lib.BufferWrite
namespace Go.Proofs.Ytgbiffpnfpdcoaa
open Go.RowKit Go.Maps
set_option linter.unusedVariables false
set_option linter.unusedSimpArgs false

/-- the bytes of a block: one, and a few at its beginning -/
def blockL (fill : Int) (head : ByteArray) : List UInt8 := head.data.toList.take 512 ++ List.replicate (512 - head.data.toList.length) (UInt8.ofNat (pickF fill 256))
theorem blockL_len (fill : Int) (head : ByteArray) : (blockL fill head).length = 512 := by
  unfold blockL
  rw [List.length_append, List.length_take, List.length_replicate]; omega
theorem copy_str {w : World} {g : Nat} (s : ByteArray) (cur : List UInt8) (hc : cur.length = 512) (hg : w.heap[g]? = some (.cells (bvs cur).toArray 5 (0, 0))) (ty : TypeId) :
    (Builtin.copy_ #[22, 9] ty #[.slice (some ⟨g, 0, none⟩) 512 512, .string s]).run Try.prog w = .ok (goInt (min s.size 512 : Nat)) (w.setRow g (bvs (s.data.toList.take 512 ++ cur.drop s.data.toList.length)).toArray) := by
  have hz : s.size = s.data.toList.length := by rw [Lib.size_eq]
  have e1 : List.take (s.size.min 512) (List.map (fun b : UInt8 => Value.int IntKind.u8 (b.toNat : Int)) s.data.toList) = bvs (s.data.toList.take 512) := by
    rw [show s.size.min 512 = min s.data.toList.length 512 by rw [hz], ← List.map_take, Nat.min_comm, List.take_eq_take_min.symm]
    rfl
  have hl : (bvs (s.data.toList.take 512)).length = min s.data.toList.length 512 := by rw [bvs_length, List.length_take, Nat.min_comm]
  have hst := run_storeCells_at (P := Try.prog) g 0 5 (bvs (s.data.toList.take 512)) 0 (bvs cur).toArray w hg (by rw [hl, List.size_toArray, bvs_length, hc]; omega) (bvs_oneCell _)
  obtain ⟨i0, hi, hz0, hz1, hz2⟩ := info_parts infoU8
  simp [Builtin.copy_, run_underlying Try.underlying22, Builtin.lenOf, Builtin.firstCells, sizeOf, typeInfo, hi, hz1]
  rw [e1, hst]
  have e3 : List.drop (min s.data.toList.length 512) (bvs cur) = List.drop s.data.toList.length (bvs cur) := by
    by_cases h : s.data.toList.length ≤ 512
    · rw [Nat.min_eq_left h]
    · rw [Nat.min_eq_right (by omega), List.drop_eq_nil_of_le (by rw [bvs_length]; omega), List.drop_eq_nil_of_le (by rw [bvs_length]; omega)]
  have e4 : (List.take (0 + 0) (bvs cur).toArray.toList ++ bvs (List.take 512 s.data.toList) ++ List.drop (0 + 0 + (bvs (List.take 512 s.data.toList)).length) (bvs cur).toArray.toList) = bvs (List.take 512 s.data.toList ++ List.drop s.size cur) := by
    rw [hl, Nat.add_zero, Nat.zero_add, List.take_zero, List.nil_append, e3, bvs_append, hz, bvs_drop]
  rw [e4]
  rfl
theorem rep_set {α : Type} (a b : α) : ∀ (i m : Nat), (List.replicate i a ++ List.replicate (m + 1) b).set i a = List.replicate (i + 1) a ++ List.replicate m b
  | 0, m => by simp [List.replicate_succ]
  | i + 1, m => by
    have := rep_set a b i m
    rw [List.replicate_succ, List.cons_append, List.set_cons_succ, this, ← List.cons_append, ← List.replicate_succ]
theorem bvs_set (l : List UInt8) (i : Nat) (b : UInt8) : (bvs l).toArray.setIfInBounds i (.int .u8 (b.toNat : Int)) = (bvs (l.set i b)).toArray := by
  rw [List.setIfInBounds_toArray]
  congr 1
  unfold bvs
  rw [List.map_set]
  rfl

set_option maxRecDepth 100000 in
set_option maxHeartbeats 1000000 in
theorem Block_any (w : World) (fill : Int) (hf : -9223372036854775808 ≤ fill ∧ fill ≤ 9223372036854775807) (head : ByteArray) :
    Calls Try.prog 28 #[.int .i64 fill, .string head] w fun e w' => e = .returned (.slice (some ⟨w.heap.size, 0, none⟩) 512 512) ∧ w'.heap[w.heap.size]? = some (.cells (bvs (blockL fill head)).toArray 5 (0, 0)) ∧ Ext w w' := by
  have HF := hid hf
  clear hf
  obtain ⟨p, hp⟩ : ∃ p, pickF fill 256 = p := ⟨_, rfl⟩
  have hp2 : p < 256 := by rw [← hp]; exact pickF_lt fill 256 (by omega)
  have hb : ((UInt8.ofNat p).toNat : Int) = p := by rw [UInt8.toNat_ofNat']; omega
  have HP := hid hp
  have HB := hid hb
  have hwr : IntKind.u8.wrap (p : Int) = p := by
    unfold IntKind.wrap
    simp [IntKind.min, IntKind.max, IntKind.bits, IntKind.signed]
    omega
  clear hp hb
  have hmk := makeZ w
  go_enter Try.func28, Try.ntmps28
  go_wp2_with fail
  obtain ⟨w1, hw1⟩ : ∃ w1, w1 = w.alloc (.cells (bvs zb).toArray 5) := ⟨_, rfl⟩
  have hr1 : w1.heap[w.heap.size]? = some (.cells (bvs zb).toArray 5 (0, 0)) := by rw [hw1]; exact heap_alloc_new _ _
  have hx1 : Ext w w1 := by rw [hw1]; exact (Ext.refl _).alloc _
  rw [← hw1]
  have HR1 := hid hr1
  have HX1 := hid hx1
  clear hw1 hmk hr1 hx1
  go_loopw [6] (fun u6 wr => ∃ i : Nat, u6 = .int .i64 i ∧ i ≤ 512 ∧ wr.heap[w.heap.size]? = some (.cells (bvs (List.replicate i (UInt8.ofNat p) ++ List.replicate (512 - i) 0)).toArray 5 (0, 0)) ∧ Ext w wr) (fun u6 _ => 512 - (intOf u6).toNat)
  case atStart => exact ⟨0, rfl, by omega, HR1.out, HX1.out⟩
  case round =>
    obtain ⟨i, rfl, hi, hr, hx⟩ := hrel
    have HR := hid hr
    have HX := hid hx
    clear hr hx HR1 HX1
    by_cases hlt : i < 512
    · have i1 : (i : Int) < 512 := by omega
      go_wp2_with fail
      refine (Pick_any _ fill 256 HF.out (by omega) (by omega)).mono ?_
      rintro e w' ⟨rfl, rfl⟩
      rw [show pickF fill (256 : Int).toNat = p from HP.out]
      have hl : (List.replicate i (UInt8.ofNat p) ++ List.replicate (512 - i) 0).length = 512 := by rw [List.length_append, List.length_replicate, List.length_replicate]; omega
      obtain ⟨x0, hc⟩ : ∃ x0, wr.cell? ⟨w.heap.size, i, none⟩ = some x0 := ⟨_, (cell_of_row _ w.heap.size i _ _ _ HR.out).trans (List.getElem?_toArray.trans (bvs_get _ i (by rw [hl]; exact hlt)))⟩
      have hfr := blk_fro HR.out i
      have HN := hid (show (wr.setCell ⟨w.heap.size, i, none⟩ (.int .u8 (p : Int))).heap[w.heap.size]? = some (.cells (bvs (List.replicate (i + 1) (UInt8.ofNat p) ++ List.replicate (512 - (i + 1)) 0)).toArray 5 (0, 0)) by
        rw [blk_set HR.out, ← HB.out, bvs_set, show 512 - i = (512 - (i + 1)) + 1 by omega, rep_set])
      have HXN := hid (show Ext w (wr.setCell ⟨w.heap.size, i, none⟩ (.int .u8 (p : Int))) from HX.out.setCell (Nat.le_refl _) _)
      clear hl
      go_wp2_with fail
      exact ⟨⟨i + 1, rfl, by omega, HN.out, HXN.out⟩, by simp only [intOf]; omega⟩
    · have hie : i = 512 := by omega
      subst hie
      have hcp := copy_str head (List.replicate 512 (UInt8.ofNat p) ++ List.replicate (512 - 512) 0) (by simp) HR.out
      have HRow := hid (show (wr.setRow w.heap.size (bvs (head.data.toList.take 512 ++ (List.replicate 512 (UInt8.ofNat p) ++ List.replicate (512 - 512) 0).drop head.data.toList.length)).toArray).heap[w.heap.size]? = some (.cells (bvs (blockL fill head)).toArray 5 (0, 0)) by
        rw [setRow_heap _ _ _ _ _ _ HR.out]
        congr 4
        unfold blockL
        rw [HP.out, Nat.sub_self, List.replicate_zero, List.append_nil, List.drop_replicate])
      have HXR := hid (show Ext w (wr.setRow w.heap.size (bvs (head.data.toList.take 512 ++ (List.replicate 512 (UInt8.ofNat p) ++ List.replicate (512 - 512) 0).drop head.data.toList.length)).toArray) by
        exact Below.trans (B := w.heap.size) HX.out ⟨rfl, rfl, rfl, by simp [World.setRow], fun k hk => setRow_other wr w.heap.size k _ (by omega)⟩)
      go_wp2_with fail
      go_ret
      exact ⟨rfl, HRow.out, HXR.out⟩

theorem zbBA : (⟨zb.toArray⟩ : ByteArray).size = 512 := by show zb.toArray.size = 512; rw [List.size_toArray]; exact zb_len
set_option maxRecDepth 100000 in
set_option maxHeartbeats 1000000 in
theorem Noughts_any (w : World) : Calls Try.prog 31 #[] w fun e w' => e = .returned (.string ⟨zb.toArray⟩) ∧ Ext w w' := by
  have hmk := makeZ w
  have hst := run_strB (rdB_row (b := zb) (heap_alloc_new w (.cells (bvs zb).toArray 5)) 512 (by rw [zb_len]) (by omega))
  go_enter Try.func31, Try.ntmps31
  go_wp2_with fail
  go_ret
  exact ⟨rfl, (Ext.refl _).alloc _⟩
end Go.Proofs.Ytgbiffpnfpdcoaa
