/- The laws' own helpers: awake, lent, held, behind; Pick. -/
import Derived.Test.YthobhkmphjnlaaaFrameR
import Derived.Lib.SlBytesConst
namespace Go.Proofs.Ythobhkmphjnlaaa
open Go.RowKit
set_option linter.unusedVariables false
set_option linter.unusedSimpArgs false
attribute [local go_sem ↓] Go.wp_at_zero Go.wp_at_succ

/-- []byte of a constant that was just laid -/
theorem kc_any (w : World) (g : Nat) (C : Array Value) (n c : Nat) (hg : w.heap.size = g) : (convert 54 54 (.slice (some ⟨g, 0, none⟩) n c)).run Try.prog (w.alloc (.cells C 5)) = .ok (.slice (some ⟨g, 0, none⟩) n c) (w.alloc (.cells C 5 (C.size, C.size + 1))) := by
  subst hg
  exact Lib.run_convert_bytes_const (P := Try.prog) w 54 5 C n c Try.underlying54 Try.underlying5

set_option maxRecDepth 100000 in
set_option maxHeartbeats 1000000 in
theorem awake_any (w : World) : Calls Try.prog 22 #[] w fun e w' => e = .returned (.bool true) ∧ Below w.heap.size w w' := by
  have HA := hid (rdB_blk w w.heap.size #[.int .u8 172, .int .u8 2, .int .u8 9] 5 [172, 2, 9] 3 rfl rfl (by omega) rfl)
  have kc := kc_any
  go_enter Try.func22, Try.ntmps22
  go_wp2_with (go_at_call 46; go_must (refine (Uint_any _ _ [172, 2, 9] HA.out).mono ?_; rintro e w1 ⟨rfl, rfl⟩; rw [show uintF [172, 2, 9] = (300, 2, 0) from by decide +kernel]))
  clear HA
  generalize hW1 : ((w.alloc (Obj.cells #[Value.int IntKind.u8 172, Value.int IntKind.u8 2, Value.int IntKind.u8 9] 5)).alloc (Obj.cells #[Value.int IntKind.u8 104, Value.int IntKind.u8 105] 5 (#[Value.int IntKind.u8 104, Value.int IntKind.u8 105].size, #[Value.int IntKind.u8 104, Value.int IntKind.u8 105].size + 1))) = W1
  have HD : RdB W1 (.slice (some ⟨w.heap.size + 1, 0, none⟩) 2 2) [104, 105] := by
    rw [← hW1]
    exact rdB_blk _ (w.heap.size + 1) _ _ _ 2 (by simp) rfl (by omega) rfl _
  have HW : Below w.heap.size w W1 := by
    rw [← hW1]
    exact ((Below.refl _ _).alloc (Nat.le_refl _) _).alloc (by simp) _
  clear hW1
  have hs1 := HW.size
  refine (PutFrame_any W1 (.slice none 0 0) [] 1 _ [104, 105] (Rd.nil _ _) HD (by simp) (by simp)).mono ?_
  rintro e w2 ⟨v2, rfl, ho2, hb2⟩
  rw [show ([] : List UInt8) ++ putF 1 [104, 105] = putF 1 [104, 105] from rfl] at ho2
  have hs2 := hb2.size
  have HW2 := hid (HW.trans (hb2.mono hs1))
  have hl8 : (putF 1 [104, 105]).length = 8 := by decide +kernel
  obtain ⟨a2, c2, rfl⟩ := ho2.slice
  rw [hl8] at ho2 ⊢
  have HO2 := hid ho2
  clear ho2 hb2 HD HW hl8
  go_wp2_with fail
  have hF := Frame_any w2 _ _ (rdB_own HO2.out) (by rw [show (putF 1 [104, 105]).length = 8 from by decide +kernel]; omega)
  rw [show frameF (putF 1 [104, 105]) = ⟨1, [104, 105], 8, 0⟩ from by kernel_rfl] at hF
  refine hF.mono ?_
  clear hF
  rintro e w3 ⟨dv, rfl, ho3, hb3⟩
  dsimp only at ho3 ⊢
  have hs3 := hb3.size
  have HW3 := hid (HW2.out.trans (hb3.mono (by omega)))
  obtain ⟨a3, c3, rfl⟩ := ho3.slice
  have HO3 := hid ho3
  clear ho3 hb3 HO2 HW2
  have c0 : (w3.alloc (.cells #[.int .u8 1, .slice a3 2 c3] 98)).cell? ⟨w3.heap.size, 0, none⟩ = some (.int .u8 1) := by rw [cell_of_row _ _ _ _ _ _ (heap_alloc_new w3 _)]; rfl
  have c1 : (w3.alloc (.cells #[.int .u8 1, .slice a3 2 c3] 98)).cell? ⟨w3.heap.size, 1, none⟩ = some (.slice a3 2 c3) := by rw [cell_of_row _ _ _ _ _ _ (heap_alloc_new w3 _)]; rfl
  have C0 := hid c0
  have C1 := hid c1
  clear c0 c1
  have HS3 : Hid (w3.heap.size < (w3.alloc (.cells #[.int .u8 1, .slice a3 2 c3] 98)).heap.size) := by show _ < _; simp
  have HO4 := hid (RdB.alloc (rdB_own HO3.out) (.cells #[.int .u8 1, .slice a3 2 c3] 98))
  have HW4 := hid (HW3.out.alloc (by omega) (.cells #[.int .u8 1, .slice a3 2 c3] 98))
  go_wp2_with fail
  refine (PutInt_any _ (.slice none 0 0) [] (-2) (Rd.nil _ _) (by omega) (by omega) (by simp)).mono ?_
  rintro e w4 ⟨v4, rfl, ho4, hb4⟩
  rw [show ([] : List UInt8) ++ putI (-2) = [3] from by decide +kernel] at ho4
  have hs4 := hb4.size
  have hs34 : w3.heap.size < w4.heap.size := Nat.lt_of_lt_of_le HS3.out hs4
  have c0 := (hb4.cell (p := ⟨w3.heap.size, 0, none⟩) HS3.out).trans C0.out
  have c1 := (hb4.cell (p := ⟨w3.heap.size, 1, none⟩) HS3.out).trans C1.out
  have hstr := run_strB (RdB.below HO4.out hb4)
  have HW5 := hid (HW4.out.trans (hb4.mono (by simp; omega)))
  have HO5 := hid ho4
  have hs5 := HW5.out.size
  obtain ⟨a4, c4, rfl⟩ := ho4.slice
  clear ho4 hb4 HO4 HW4 C0 C1 HO3 HW3 HS3 hs4
  go_wp2_with fail
  refine (Int_any _ _ [3] (rdB_own HO5.out)).mono ?_
  rintro e w5 ⟨rfl, rfl⟩
  rw [show uintF [3] = (3, 1, 0) from by decide +kernel]
  dsimp only
  rw [show unzig 3 = -2 from by decide +kernel]
  clear HO5
  have HS := hid (rdB_blk w4 w4.heap.size #[.int .u8 49, .int .u8 50, .int .u8 51, .int .u8 52, .int .u8 53, .int .u8 54, .int .u8 55, .int .u8 56, .int .u8 57] 5 [49, 50, 51, 52, 53, 54, 55, 56, 57] 9 rfl rfl (by omega) rfl (9, 10))
  simp only [List.length_cons, List.length_nil] at hstr
  go_wp2_with (go_at_call 51; go_must (refine (Sum_any _ _ [49, 50, 51, 52, 53, 54, 55, 56, 57] HS.out).mono ?_; rintro e w6 ⟨rfl, hb6⟩; rw [show sumF [49, 50, 51, 52, 53, 54, 55, 56, 57] = 3808858755 from by decide +kernel]))
  go_ret
  exact ⟨rfl, (HW5.out.alloc (by omega) _).trans (hb6.mono (by simp; omega))⟩
end Go.Proofs.Ythobhkmphjnlaaa
