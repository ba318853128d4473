/- cartularylaw10.awake, walked. -/
import Derived.Test.YthobhkmphjnlaaaStrF
import Derived.Deep.QuietTactic
import Derived.BigQuiet
namespace Go.Proofs.Ythobhkmphjnlaaa
open Go.RowKit
set_option linter.unusedVariables false
set_option linter.unusedSimpArgs false

def sA : ByteArray := ⟨#[97]⟩
def sB : ByteArray := ⟨#[98]⟩
def sK : ByteArray := ⟨#[107]⟩
theorem try1 : tryF ix0 ⟨#[97]⟩ (-1) ⟨#[107]⟩ [opened, opened] = ((0, 0, 2, false), (⟨#[97]⟩, ⟨#[107]⟩, 0, [opened, opened]), 0) := by decide +kernel
theorem add1 : (addF ix0 (⟨#[97]⟩, ⟨#[107]⟩, 0, [opened, opened])).2 = 0 := by decide +kernel
theorem try2 : tryF (addF ix0 (⟨#[97]⟩, ⟨#[107]⟩, 0, [opened, opened])).1 ⟨#[97]⟩ 7 ⟨#[107]⟩ [] = ((0, 0, 2, true), bat0, 0) := by decide +kernel
theorem try3 : tryF (addF ix0 (⟨#[97]⟩, ⟨#[107]⟩, 0, [opened, opened])).1 ⟨#[98]⟩ 1 ⟨#[]⟩ [opened] = (app0, bat0, 103) := by decide +kernel
theorem len1 : (addF ix0 (⟨#[97]⟩, ⟨#[107]⟩, 0, [opened, opened])).1.all.length = 2 := by decide +kernel
theorem str1 : ((addF ix0 (⟨#[97]⟩, ⟨#[107]⟩, 0, [opened, opened])).1.str ⟨#[97]⟩).length = 2 := by decide +kernel
theorem str2 : ((addF ix0 (⟨#[97]⟩, ⟨#[107]⟩, 0, [opened, opened])).1.str ⟨#[98]⟩).length = 0 := by decide +kernel

theorem opened_rd (w : World) (S : Nat → Prop) : rE.rd w S [.string ⟨#[111, 112, 101, 110, 101, 100]⟩, .int .i64 1, .slice none 0 0] opened :=
  ⟨[_], _, rfl, ⟨rfl, by decide +kernel⟩, [_], _, rfl, ⟨rfl, by decide⟩, RdS.nil _ _ _⟩
theorem ops2_src {w : World} {g : Nat} (h : w.heap[g]? = some (.cells #[.string ⟨#[111, 112, 101, 110, 101, 100]⟩, .int .i64 1, .slice none 0 0, .string ⟨#[111, 112, 101, 110, 101, 100]⟩, .int .i64 1, .slice none 0 0] 46 (0, 0))) : RdS rE w (fun k => k = g) (.slice (some ⟨g, 0, none⟩) 2 2) [opened, opened] := by
  refine ⟨_, [([.string ⟨#[111, 112, 101, 110, 101, 100]⟩, .int .i64 1, .slice none 0 0], opened), ([.string ⟨#[111, 112, 101, 110, 101, 100]⟩, .int .i64 1, .slice none 0 0], opened)], rfl, rfl, ⟨some ⟨g, 0, none⟩, 2, rfl, by simp, by unfold maxLen; omega, rfl, fun _ => ⟨g, 0, rfl, (Array.getElem?_eq_some_iff.1 h).1, fun j hj => ?_⟩⟩, fun _ k hk => by cases hk; rfl, fun p hp => ?_⟩
  · rw [Nat.zero_add, cell_of_row _ _ _ _ _ _ h]
    simp [cellsOf]
  · simp only [List.mem_cons, List.not_mem_nil, or_false] at hp
    rcases hp with rfl | rfl <;> exact opened_rd _ _
theorem ops1_src {w : World} {g : Nat} (h : w.heap[g]? = some (.cells #[.string ⟨#[111, 112, 101, 110, 101, 100]⟩, .int .i64 1, .slice none 0 0] 46 (0, 0))) : RdS rE w (fun k => k = g) (.slice (some ⟨g, 0, none⟩) 1 1) [opened] := by
  refine ⟨_, [([.string ⟨#[111, 112, 101, 110, 101, 100]⟩, .int .i64 1, .slice none 0 0], opened)], rfl, rfl, ⟨some ⟨g, 0, none⟩, 1, rfl, by simp, by unfold maxLen; omega, rfl, fun _ => ⟨g, 0, rfl, (Array.getElem?_eq_some_iff.1 h).1, fun j hj => ?_⟩⟩, fun _ k hk => by cases hk; rfl, fun p hp => ?_⟩
  · rw [Nat.zero_add, cell_of_row _ _ _ _ _ _ h]
    simp [cellsOf]
  · obtain rfl := List.mem_singleton.1 hp
    exact opened_rd _ _

set_option maxRecDepth 100000 in
set_option maxHeartbeats 4000000 in
theorem awake10_any (w : World) : Calls Try.prog 14 #[] w fun e w' => e = .returned (.bool true) ∧ Ext w w' := by
  go_enter Try.func14, Try.ntmps14
  go_wp2_with fail
  refine (New_idx w).mono ?_
  rintro e w1 ⟨g, rfl, hI, hx1⟩
  have HI := hid hI
  have HX1 := hid hx1
  clear hI hx1
  go_wp2_with (first | (go_at_call 41; go_must (refine (Opened_any _).mono ?_; rintro e w' ⟨rfl, hx'⟩)))
  obtain ⟨w2, hw2⟩ : ∃ w2, w2 = w'.alloc (.cells #[.string ⟨#[111, 112, 101, 110, 101, 100]⟩, .int .i64 1, .slice none 0 0, .string ⟨#[111, 112, 101, 110, 101, 100]⟩, .int .i64 1, .slice none 0 0] 46) := ⟨_, rfl⟩
  rw [← hw2]
  have hx12 : Ext w1 w2 := by
    have : Ext w' w2 := by rw [hw2]; exact (Ext.refl _).alloc _
    exact (by (· repeat (first | (with_reducible assumption) | exact Ext.refl _ | refine Ext.alloc ?_ _ | refine Ext.drew ?_ | refine Ext.drewN ?_ _ | (apply Ext.snart; (with_reducible assumption)))) : Ext w1 w').trans this
  have hr2 : RdS rE w2 (fun k => k = w'.heap.size) (.slice (some ⟨w'.heap.size, 0, none⟩) 2 2) [opened, opened] := ops2_src (by rw [hw2]; exact heap_alloc_new _ _)
  have HR2 := hid hr2
  have HX12 := hid hx12
  clear hw2 hx12 hr2
  refine (Try_idx w2 _ g ix0 (HI.out.ext HX12.out) (by decide) _ (by decide +kernel) (-1) (by decide) _ (by decide +kernel) _ _ _ HR2.out (by decide) (by decide)).mono ?_
  rintro e w3 ⟨ev, rfl, hev, hx3⟩
  rw [try1] at hev ⊢
  dsimp only at hev ⊢
  obtain ⟨ea, ec, rfl, -, -⟩ := hev.slice
  have HEV := hid hev
  have HX3 := hid (HX12.out.trans hx3)
  have HW2 := hid (show w2.heap.size ≤ w3.heap.size ∧ w1.heap.size ≤ w2.heap.size from ⟨hx3.size, HX12.out.size⟩)
  clear hev hx3
  go_wp2_with fail
  obtain ⟨w4, hw4⟩ : ∃ w4, w4 = (w3.alloc (.cells #[.int .i64 0, .int .i64 0, .int .i64 2, .bool false] 29)).alloc (.cells #[.string ⟨#[97]⟩, .string ⟨#[107]⟩, .int .i64 0, .slice ea 2 ec] 31) := ⟨_, rfl⟩
  rw [← hw4]
  have hx34 : Ext w3 w4 := by rw [hw4]; exact ((Ext.refl _).alloc _).alloc _
  have hrA : w4.heap[w3.heap.size]? = some (.cells #[.int .i64 0, .int .i64 0, .int .i64 2, .bool false] 29 (0, 0)) := by
    have h1 : (w3.alloc (.cells #[.int .i64 0, .int .i64 0, .int .i64 2, .bool false] 29)).heap[w3.heap.size]? = _ := heap_alloc_new _ _
    rw [hw4]
    exact (Below.block ((Ext.refl _).alloc _) _ (by simp)).trans h1
  have hs4 : w4.heap.size = w3.heap.size + 2 := by rw [hw4]; simp
  clear hw4
  obtain ⟨gA, hgA⟩ : ∃ gA, gA = w3.heap.size := ⟨_, rfl⟩
  rw [← hgA] at hrA ⊢
  have HRA := hid hrA
  have HX4 := hid (HX3.out.trans hx34)
  have HX34 := hid hx34
  have hgA1 : w1.heap.size ≤ gA := by have := HW2.out; omega
  have hgA2 : gA < w4.heap.size := by omega
  clear hrA hx34 hs4 hgA
  refine (Add_idx w4 _ g ix0 (HI.out.ext HX4.out) (by decide) _ (by decide +kernel) _ (by decide +kernel) 0 (by decide) (fun k => w2.heap.size ≤ k) (fun j hj h => by have h1 := HW2.out.2; have h2 := h.2; have h3 : w2.heap.size ≤ j := hj; omega) _ [opened, opened] (RdEs.read (RdSO.ext HEV.out HX34.out)) (by decide) (by decide)).mono ?_
  rintro e w5 ⟨rfl, hi5, hk5⟩
  rw [add1]
  have HI5 := hid hi5
  have hrA5 := (hk5.block gA (fun h => by have := h.2; omega) hgA2).trans HRA.out
  have HRA5 := hid hrA5
  have HK5 := hid (show Ext w w5 from Below.trans (HX1.out.trans HX4.out) (hk5.below w.heap.size ((HX1.out.trans HX4.out).size) (fun k hk h => by have := h.1; omega)))
  have hgA5 : gA < w5.heap.size := by have := hk5.size; omega
  clear hi5 hk5 hrA5 HRA hgA2
  go_wp2_with fail
  refine (Try_idx w5 _ g _ HI5.out (by rw [len1]; decide) _ (by decide +kernel) 7 (by decide) _ (by decide +kernel) (fun _ => False) _ [] (RdS.nil _ _ _) (by decide) (by rw [str1]; decide)).mono ?_
  rintro e w6 ⟨ev2, rfl, hev, hx6⟩
  rw [try2] at hev ⊢
  dsimp only [bat0] at hev ⊢
  obtain ⟨ea2, ec2, rfl, -, -⟩ := hev.slice
  have HX6 := hid hx6
  clear hev hx6
  go_wp2_with fail
  obtain ⟨w7, hw7⟩ : ∃ w7, w7 = (w6.alloc (.cells #[.int .i64 0, .int .i64 0, .int .i64 2, .bool true] 29)).alloc (.cells #[.string ⟨#[]⟩, .string ⟨#[]⟩, .int .i64 0, .slice ea2 0 ec2] 31) := ⟨_, rfl⟩
  rw [← hw7]
  have hx67 : Ext w6 w7 := by rw [hw7]; exact ((Ext.refl _).alloc _).alloc _
  have hrC : w7.heap[w6.heap.size]? = some (.cells #[.int .i64 0, .int .i64 0, .int .i64 2, .bool true] 29 (0, 0)) := by
    have h1 : (w6.alloc (.cells #[.int .i64 0, .int .i64 0, .int .i64 2, .bool true] 29)).heap[w6.heap.size]? = _ := heap_alloc_new _ _
    rw [hw7]
    exact (Below.block ((Ext.refl _).alloc _) _ (by simp)).trans h1
  have hs7 : w7.heap.size = w6.heap.size + 2 := by rw [hw7]; simp
  clear hw7
  obtain ⟨gC, hgC⟩ : ∃ gC, gC = w6.heap.size := ⟨_, rfl⟩
  rw [← hgC] at hrC ⊢
  have HRC := hid hrC
  have HX57 := hid (HX6.out.trans hx67)
  have hgC2 : gC < w7.heap.size := by omega
  clear hrC hx67 hs7 hgC HX6
  refine (Opened_any w7).mono ?_
  rintro e w8 ⟨rfl, hx8⟩
  have HX8 := hid hx8
  clear hx8
  go_wp2_with fail
  obtain ⟨w9, hw9⟩ : ∃ w9, w9 = w8.alloc (.cells #[.string ⟨#[111, 112, 101, 110, 101, 100]⟩, .int .i64 1, .slice none 0 0] 46) := ⟨_, rfl⟩
  rw [← hw9]
  have hx89 : Ext w8 w9 := by rw [hw9]; exact (Ext.refl _).alloc _
  have hr9 : RdS rE w9 (fun k => k = w8.heap.size) (.slice (some ⟨w8.heap.size, 0, none⟩) 1 1) [opened] := ops1_src (by rw [hw9]; exact heap_alloc_new _ _)
  have HX79 := hid (HX8.out.trans hx89)
  have HR9 := hid hr9
  clear hw9 hx89 hr9 HX8
  refine (Try_idx w9 _ g _ (HI5.out.ext (HX57.out.trans HX79.out)) (by rw [len1]; decide) _ (by decide +kernel) 1 (by decide) _ (by decide +kernel) _ _ [opened] HR9.out (by decide) (by rw [str2]; decide)).mono ?_
  rintro e wx ⟨ev3, rfl, hev, hxx⟩
  rw [try3] at hev ⊢
  dsimp only [bat0, app0] at hev ⊢
  obtain ⟨ea3, ec3, rfl, -, -⟩ := hev.slice
  have HX9 := hid hxx
  clear hev hxx
  have hxe : Ext w7 wx := HX79.out.trans HX9.out
  have hrA := (Below.block (HX57.out.trans hxe) gA hgA5).trans HRA5.out
  have hrC := (Below.block hxe gC hgC2).trans HRC.out
  have a0 : wx.cell? ⟨gA, 0, none⟩ = some (.int .i64 0) := (cell_of_row _ gA 0 _ _ _ hrA).trans rfl
  have a1 : wx.cell? ⟨gA, 1, none⟩ = some (.int .i64 0) := (cell_of_row _ gA 1 _ _ _ hrA).trans rfl
  have a2 : wx.cell? ⟨gA, 2, none⟩ = some (.int .i64 2) := (cell_of_row _ gA 2 _ _ _ hrA).trans rfl
  have a3 : wx.cell? ⟨gA, 3, none⟩ = some (.bool false) := (cell_of_row _ gA 3 _ _ _ hrA).trans rfl
  have d0 : wx.cell? ⟨gC, 0, none⟩ = some (.int .i64 0) := (cell_of_row _ gC 0 _ _ _ hrC).trans rfl
  have d1 : wx.cell? ⟨gC, 1, none⟩ = some (.int .i64 0) := (cell_of_row _ gC 1 _ _ _ hrC).trans rfl
  have d2 : wx.cell? ⟨gC, 2, none⟩ = some (.int .i64 2) := (cell_of_row _ gC 2 _ _ _ hrC).trans rfl
  have d3 : wx.cell? ⟨gC, 3, none⟩ = some (.bool true) := (cell_of_row _ gC 3 _ _ _ hrC).trans rfl
  have hgAx := (Array.getElem?_eq_some_iff.1 hrA).1
  have hgCx := (Array.getElem?_eq_some_iff.1 hrC).1
  have n1 : ¬ gA = wx.heap.size := by omega
  have n2 : ¬ wx.heap.size = gA := by omega
  have n3 : ¬ gC = wx.heap.size := by omega
  have n4 : ¬ wx.heap.size = gC := by omega
  have n5 : ¬ gA = wx.heap.size + 1 := by omega
  have n6 : ¬ wx.heap.size + 1 = gA := by omega
  have n7 : ¬ gC = wx.heap.size + 1 := by omega
  have n8 : ¬ wx.heap.size + 1 = gC := by omega
  have HXE := hid (HK5.out.trans (HX57.out.trans hxe))
  have HI9 := hid (HI5.out.ext (HX57.out.trans hxe))
  clear hxe hrA hrC
  go_wp2_with fail
  refine (Len_idx _ _ g _ (HI9.out.ext (by (· repeat (first | (with_reducible assumption) | exact Ext.refl _ | refine Ext.alloc ?_ _ | refine Ext.drew ?_ | refine Ext.drewN ?_ _ | (apply Ext.snart; (with_reducible assumption)))))) (by rw [len1]; decide)).mono ?_
  rintro e wz ⟨rfl, rfl⟩
  rw [len1]
  go_wp2_with fail
  go_ret
  exact ⟨rfl, HXE.out.trans (show Ext wx _ by (· repeat (first | (with_reducible assumption) | exact Ext.refl _ | refine Ext.alloc ?_ _ | refine Ext.drew ?_ | refine Ext.drewN ?_ _ | (apply Ext.snart; (with_reducible assumption)))))⟩
end Go.Proofs.Ythobhkmphjnlaaa
