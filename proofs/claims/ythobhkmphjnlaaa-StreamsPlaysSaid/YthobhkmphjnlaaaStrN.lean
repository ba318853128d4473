/- streams: cut, copied, All, walked. -/
import Derived.Test.YthobhkmphjnlaaaStrF
namespace Go.Proofs.Ythobhkmphjnlaaa
open Go.RowKit
set_option linter.unusedVariables false
set_option linter.unusedSimpArgs false

theorem sizeEnt : (Try.prog.info? 71).map (·.size) = some 6 := by kernel_rfl

set_option maxRecDepth 100000 in
set_option maxHeartbeats 1000000 in
theorem cutE_any (w : World) (S : Nat → Prop) (v : Value) (xs : List Ent) (h : RdS rEnt w S v xs) (p q : Nat) (hp : p ≤ 9223372036854775807) (hq : q ≤ 9223372036854775807) :
    Calls Try.prog 54 #[v, .int .i64 p, .int .i64 q] w fun e w' => ∃ v', e = .returned v' ∧ RdS rEnt w S v' ((xs.drop p).take q) ∧ w = w' := by
  obtain ⟨a, cap, rfl, hc1, hc2⟩ := h.slice
  have H := hid h
  clear h
  obtain ⟨l, hl1, hl2⟩ : ∃ l, (xs.length < p ∧ l = xs.length ∨ ¬ xs.length < p ∧ l = p) ∧ l ≤ xs.length := by
    by_cases hpl : xs.length < p
    · exact ⟨xs.length, .inl ⟨hpl, rfl⟩, by omega⟩
    · exact ⟨p, .inr ⟨hpl, rfl⟩, by omega⟩
  have h1 := H.out.cut l xs.length hl2 (Nat.le_refl _)
  have hx1 : (xs.drop l).take (xs.length - l) = xs.drop l := List.take_of_length_le (by rw [List.length_drop]; omega)
  rw [hx1] at h1
  have H1 := hid h1
  obtain ⟨m, hm1, hm2⟩ : ∃ m, (xs.length - l < q ∧ m = xs.length - l ∨ ¬ xs.length - l < q ∧ m = q) ∧ m ≤ xs.length - l := by
    by_cases hpl : xs.length - l < q
    · exact ⟨xs.length - l, .inl ⟨hpl, rfl⟩, by omega⟩
    · exact ⟨q, .inr ⟨hpl, rfl⟩, by omega⟩
  have hdl : (xs.drop l).length = xs.length - l := List.length_drop
  rw [show xs.length - l = (xs.drop l).length from hdl.symm] at h1
  have h2 := h1.cut 0 m (Nat.zero_le _) (by rw [hdl]; omega)
  have hx2 : ((xs.drop l).drop 0).take (m - 0) = (xs.drop p).take q := by
    rw [List.drop_zero, Nat.sub_zero]
    rcases hl1 with ⟨k1, k2⟩ | ⟨k1, k2⟩
    · rw [k2, List.drop_of_length_le (Nat.le_refl _), List.drop_of_length_le (by omega)]; simp
    · rw [k2] at hm1 hdl ⊢
      rcases hm1 with ⟨j1, j2⟩ | ⟨j1, j2⟩
      · rw [j2, List.take_of_length_le (by omega), List.take_of_length_le (by omega)]
      · rw [j2]
  rw [hx2] at h2
  have H2 := hid h2
  clear h1 h2 hx1 hx2 hdl
  rcases hl1 with ⟨k1, rfl⟩ | ⟨k1, rfl⟩
  all_goals
    rcases hm1 with ⟨j1, rfl⟩ | ⟨j1, rfl⟩
  all_goals
      go_enter Try.func54, Try.ntmps54
      go_wp2_with ((with_reducible refine at_slice ?_); (first | (refine wl_slice_l rfl rfl Try.underlying49 sizeEnt rfl rfl _ rfl ?_ ?_; omega) | (refine wl_slice_h rfl rfl Try.underlying49 sizeEnt rfl rfl _ rfl ?_ ?_; omega)))
      go_ret
      have H3 := H2.out
      simp only [Nat.sub_zero, Nat.sub_self, show rEnt.size = 6 from rfl] at H3
      (first
        | exact ⟨_, rfl, H3, rfl⟩
        | (have H4 := H1.out
           simp only [Nat.sub_self, show rEnt.size = 6 from rfl] at H4
           have e1 : ∀ n, (xs.drop p).take n = xs.drop xs.length := by
             intro n; rw [List.drop_of_length_le (Nat.le_of_lt k1), List.drop_of_length_le (Nat.le_refl _)]; simp
           rw [← e1] at H4
           exact ⟨_, rfl, H4, rfl⟩))
theorem set6 {w : World} {g : Nat} {a b c d e f v0 v1 v2 v3 v4 v5 : Value} {t : TypeId} (h : w.heap[g]? = some (.cells #[a, b, c, d, e, f] t (0, 0))) :
    (((((((w.setCell ⟨g, 0, none⟩ v0).setCell ⟨g, 1, none⟩ v1).setCell ⟨g, 2, none⟩ v2).setCell ⟨g, 3, none⟩ v3).setCell ⟨g, 4, none⟩ v4).setCell ⟨g, 5, none⟩ v5).heap[g]? = some (.cells #[v0, v1, v2, v3, v4, v5] t (0, 0))) :=
  set_blk (o := 5) (set_blk (o := 4) (set_blk (o := 3) (set_blk (o := 2) (set_blk (o := 1) (set_blk (o := 0) h v0) v1) v2) v3) v4) v5
theorem keep6 {S : Nat → Prop} {a w : World} {g : Nat} {v0 v1 v2 v3 v4 v5 : Value} (h : Keep S a w) (hg : ¬ S g) : Keep S a ((((((w.setCell ⟨g, 0, none⟩ v0).setCell ⟨g, 1, none⟩ v1).setCell ⟨g, 2, none⟩ v2).setCell ⟨g, 3, none⟩ v3).setCell ⟨g, 4, none⟩ v4).setCell ⟨g, 5, none⟩ v5) :=
  (((((h.setCell hg _).setCell hg _).setCell hg _).setCell hg _).setCell hg _).setCell hg _

set_option maxRecDepth 100000 in
set_option maxHeartbeats 400000 in
theorem copied_any (w : World) (S : Nat → Prop) (ap : Int) (st : ByteArray) (an : Int) (t : ByteArray) (n : Int) (fv : Value) (fs : List Fld) (hf : RdS rF w S fv fs) (hl : fs.length ≤ 1000000) :
    Calls Try.prog 55 #[.agg #[.int .i64 ap, .string st, .int .i64 an, .string t, .int .i64 n, fv]] w fun e w' => ∃ fv', e = .returned (.agg #[.int .i64 ap, .string st, .int .i64 an, .string t, .int .i64 n, fv']) ∧ RdSO rF 108 w' (fun k => w.heap.size ≤ k) fv' fs ∧ Ext w w' := by
  obtain ⟨fa, fc, rfl, hfc1, hfc2⟩ := hf.slice
  have HF := hid hf
  clear hf
  go_enter Try.func55, Try.ntmps55
  go_wp2_with fail
  obtain ⟨wz, hwz⟩ : ∃ wz, wz = w.alloc (.cells #[.int .i64 ap, .string st, .int .i64 an, .string t, .int .i64 n, .slice fa fs.length fc] 71) := ⟨_, rfl⟩
  obtain ⟨wa, hwa⟩ : ∃ wa, wa = wz.alloc (.cells #[.int .i64 0, .string ⟨#[]⟩, .int .i64 0, .string ⟨#[]⟩, .int .i64 0, .slice none 0 0] 71) := ⟨_, rfl⟩
  have hz1 : wz.heap.size = w.heap.size + 1 := by rw [hwz]; simp
  have ha1 : wa.heap.size = w.heap.size + 2 := by rw [hwa]; simp [hz1]
  have hxz : Ext w wz := by rw [hwz]; exact (Ext.refl w).alloc _
  have hxa : Ext wz wa := by rw [hwa]; exact (Ext.refl wz).alloc _
  have hrz : wa.heap[w.heap.size]? = some (.cells #[.int .i64 ap, .string st, .int .i64 an, .string t, .int .i64 n, .slice fa fs.length fc] 71 (0, 0)) := (Below.block hxa _ (by omega)).trans (by rw [hwz]; exact heap_alloc_new _ _)
  have hra : wa.heap[w.heap.size + 1]? = some (.cells #[.int .i64 0, .string ⟨#[]⟩, .int .i64 0, .string ⟨#[]⟩, .int .i64 0, .slice none 0 0] 71 (0, 0)) := by rw [hwa, ← hz1]; exact heap_alloc_new _ _
  rw [← hwz, ← hwa]
  refine (own_any wa S t n _ fs (HF.out.ext (hxz.trans hxa)) hl).mono ?_
  rintro e w1 ⟨v1, rfl, ho1, hx1⟩
  have hrz1 := (Below.block hx1 w.heap.size (by omega)).trans hrz
  have hra1 := (Below.block hx1 (w.heap.size + 1) (by omega)).trans hra
  have HO := hid ho1
  have HX := hid ((hxz.trans hxa).trans hx1)
  have HS := hid ha1
  obtain ⟨a1, c1, rfl, hc11, hc12⟩ := ho1.slice
  obtain ⟨g, hg⟩ : ∃ g, g = w.heap.size := ⟨_, rfl⟩
  obtain ⟨g1, hg1⟩ : ∃ g1, g1 = w.heap.size + 1 := ⟨_, rfl⟩
  have hgg : ¬ g = g1 := by omega
  have hgg' : ¬ g1 = g := by omega
  rw [← hg1] at hra1 ⊢
  rw [← hg] at hrz1 ⊢
  have HRZ := hid hrz1
  have HRA := hid hra1
  have x0 : w1.cell? ⟨g, 0, none⟩ = some (.int .i64 ap) := (cell_of_row _ _ _ _ _ _ hrz1).trans rfl
  have x1 : w1.cell? ⟨g, 1, none⟩ = some (.string st) := (cell_of_row _ _ _ _ _ _ hrz1).trans rfl
  have x2 : w1.cell? ⟨g, 2, none⟩ = some (.int .i64 an) := (cell_of_row _ _ _ _ _ _ hrz1).trans rfl
  have x3 : w1.cell? ⟨g, 3, none⟩ = some (.string t) := (cell_of_row _ _ _ _ _ _ hrz1).trans rfl
  have x4 : w1.cell? ⟨g, 4, none⟩ = some (.int .i64 n) := (cell_of_row _ _ _ _ _ _ hrz1).trans rfl
  have x5 : w1.cell? ⟨g, 5, none⟩ = some (.slice fa fs.length fc) := (cell_of_row _ _ _ _ _ _ hrz1).trans rfl
  have y3 := frozen_blk hrz1 3
  have y4 := frozen_blk hrz1 4
  have y5 := frozen_blk hrz1 5
  have z0 : w1.cell? ⟨g1, 0, none⟩ = some (.int .i64 0) := (cell_of_row _ _ _ _ _ _ hra1).trans rfl
  have z1 : w1.cell? ⟨g1, 1, none⟩ = some (.string ⟨#[]⟩) := (cell_of_row _ _ _ _ _ _ hra1).trans rfl
  have z2 : w1.cell? ⟨g1, 2, none⟩ = some (.int .i64 0) := (cell_of_row _ _ _ _ _ _ hra1).trans rfl
  have z3 : w1.cell? ⟨g1, 3, none⟩ = some (.string ⟨#[]⟩) := (cell_of_row _ _ _ _ _ _ hra1).trans rfl
  have z4 : w1.cell? ⟨g1, 4, none⟩ = some (.int .i64 0) := (cell_of_row _ _ _ _ _ _ hra1).trans rfl
  have z5 : w1.cell? ⟨g1, 5, none⟩ = some (.slice none 0 0) := (cell_of_row _ _ _ _ _ _ hra1).trans rfl
  have u0 := frozen_blk hra1 0
  have u1 := frozen_blk hra1 1
  have u2 := frozen_blk hra1 2
  have u3 := frozen_blk hra1 3
  have u4 := frozen_blk hra1 4
  have u5 := frozen_blk hra1 5
  have HG := hid (show g = w.heap.size ∧ g1 = w.heap.size + 1 from ⟨hg, hg1⟩)
  have HW := hid hx1.size
  clear hwz hwa hz1 ha1 hxz hxa hrz hra hrz1 hra1 hx1 ho1 hg hg1
  have HE := hid (show (((w1.setCell ⟨g, 3, none⟩ (.string t)).setCell ⟨g, 4, none⟩ (.int .i64 n)).setCell ⟨g, 5, none⟩ (.slice a1 fs.length c1)).heap[g1]? = some (.cells #[.int .i64 0, .string ⟨#[]⟩, .int .i64 0, .string ⟨#[]⟩, .int .i64 0, .slice none 0 0] 71 (0, 0)) from (((((Keep.refl (fun k => k ≠ g) w1).setCell (by simp) _).setCell (by simp) _).setCell (by simp) _).block g1 hgg' (Array.getElem?_eq_some_iff.1 HRA.out).1).trans HRA.out)
  go_wp2_with fail
  have hr := set6 (v0 := .int .i64 ap) (v1 := .string st) (v2 := .int .i64 an) (v3 := .string t) (v4 := .int .i64 n) (v5 := .slice a1 fs.length c1) HE.out
  have q0 := (cell_of_row _ _ 0 _ _ _ hr).trans rfl
  have q1 := (cell_of_row _ _ 1 _ _ _ hr).trans rfl
  have q2 := (cell_of_row _ _ 2 _ _ _ hr).trans rfl
  have q3 := (cell_of_row _ _ 3 _ _ _ hr).trans rfl
  have q4 := (cell_of_row _ _ 4 _ _ _ hr).trans rfl
  have q5 := (cell_of_row _ _ 5 _ _ _ hr).trans rfl
  have e0 : w.heap.size ≤ g := by have := HG.out; omega
  have e1 : w.heap.size ≤ g1 := by have := HG.out; omega
  have f0 : ¬ wa.heap.size ≤ g := by have := HG.out; have := HS.out; omega
  have f1 : ¬ wa.heap.size ≤ g1 := by have := HG.out; have := HS.out; omega
  refine bodyPost_ret (v := .agg #[.int .i64 ap, .string st, .int .i64 an, .string t, .int .i64 n, .slice a1 fs.length c1]) (by simp [results, Try.results55, go_sem, q0, q1, q2, q3, q4, q5]) rfl ⟨_, rfl, ?_, ?_⟩
  · refine (HO.out.kept (keep6 ((((Keep.refl _ w1).setCell f0 _).setCell f0 _).setCell f0 _) f1)).mono (fun k hk _ => ?_)
    have : wa.heap.size ≤ k := hk
    have := HS.out; omega
  · exact ((((((((HX.out.setCell (p := ⟨g, 3, none⟩) e0 _).setCell (p := ⟨g, 4, none⟩) e0 _).setCell (p := ⟨g, 5, none⟩) e0 _).setCell (p := ⟨g1, 0, none⟩) e1 _).setCell (p := ⟨g1, 1, none⟩) e1 _).setCell (p := ⟨g1, 2, none⟩) e1 _).setCell (p := ⟨g1, 3, none⟩) e1 _).setCell (p := ⟨g1, 4, none⟩) e1 _).setCell (p := ⟨g1, 5, none⟩) e1 _
end Go.Proofs.Ythobhkmphjnlaaa
