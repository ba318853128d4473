/- cartularylaw10: asked, do, StreamsPlays; its argument with sizes. -/
import Derived.Test.YthobhkmphjnlaaaPl3
import Derived.BigQuiet
import Derived.Deep.QuietTactic
import Derived.Test.YthobhkmphjnlaaaStrH
import Derived.Test.YthobhkmphjnlaaaOpnT
import Derived.Deep.DeepCutAuto
import Derived.Test.YthobhkmphjnlaaaOpnWG

/- cartularyref01.SameTexts; cartularylaw10's asked. -/
namespace Go.Proofs.Ythobhkmphjnlaaa
open Go.RowKit Go.Maps
set_option linter.unusedVariables false
set_option linter.unusedSimpArgs false

set_option maxRecDepth 100000 in
set_option maxHeartbeats 1000000 in
theorem SameTexts_self (w : World) (S T : Nat → Prop) (va vb : Value) (fs : List ByteArray) (ha : RdS rS w S va fs) (hb : RdS rS w T vb fs) :
    Calls Try.prog 81 #[va, vb] w fun e w' => e = .returned (.bool true) ∧ Ext w w' := by
  have HA := hid ha
  have HB := hid hb
  obtain ⟨a, cap, rfl, h1, h2⟩ := ha.slice
  obtain ⟨b, capb, rfl, k1, k2⟩ := hb.slice
  clear ha hb
  go_enter Try.func81, Try.ntmps81
  go_wp2_with fail
  go_loopw [5] (fun i wr => ∃ k : Nat, i = .int .i64 k ∧ k ≤ fs.length ∧ Ext w wr) (fun i _ => fs.length - (intOf i).toNat)
  case atStart => exact ⟨0, rfl, by omega, Ext.refl _⟩
  case round =>
    obtain ⟨k, rfl, hk, hx⟩ := hrel
    have HX := hid hx
    by_cases hl : k < fs.length
    · obtain ⟨g, o, c1, e, hg, -, c0, -⟩ := (HA.out.ext hx).atS k hl
      simp only [Value.slice.injEq] at e
      obtain ⟨rfl, -, rfl⟩ := e
      obtain ⟨g', o', c2, e, hg', -, d0, -⟩ := (HB.out.ext hx).atS k hl
      simp only [Value.slice.injEq] at e
      obtain ⟨rfl, -, rfl⟩ := e
      generalize fs[k] = y at c0 d0
      have e1 := str_tt (a := y) rfl
      have i1 : (k : Int) < (fs.length : Int) := by omega
      have i3 : (0 : Int) ≤ (k : Int) := by omega
      have hw1 : IntKind.i64.wrap ((k : Int) + 1) = (k : Int) + 1 := by rw [IntKind.wrap_i64]; omega
      clear hx
      go_wp2_with fail
      go_quiet (fail)
      go_wp2_with fail
      exact ⟨⟨k + 1, rfl, by omega, HX.out.drewN _⟩, by simp only [intOf]; omega⟩
    · obtain rfl : k = fs.length := by omega
      have i1 : ¬ (fs.length : Int) < (fs.length : Int) := by omega
      clear hx
      go_wp2_with fail
      go_ret
      exact ⟨rfl, HX.out⟩

set_option maxRecDepth 100000 in
set_option maxHeartbeats 4000000 in
theorem asked10_any (w : World) (B n g r : Nat) (x : Ix) (L : List Bat) (T E U : Nat → Prop) (h : Sd w B n g r x L T E U) (hn : n ≤ 1000) (kd N M bf : Int) (s k bs bk : ByteArray) (lv bev : Value)
    (hs : s.size ≤ 9223372036854775807) (hk : k.size ≤ 9223372036854775807) (la : Option Addr) (ll lc : Nat) (ba : Option Addr) (bl bc : Nat) :
    Calls Try.prog 40 #[.pointer (some ⟨g, 0, none⟩), .pointer (some ⟨r, 0, none⟩), .agg #[.int .i64 kd, .string s, .string k, .int .i64 N, .int .i64 M, .slice la ll lc, .string bs, .string bk, .int .i64 bf, .slice ba bl bc]] w fun e w' => e = .returned (.bool true) ∧ Ext w w' := by
  have H := hid h
  have hL1 := h.inv.len
  have hL2 := h.inv.ev
  have HBK := And.intro (h.inv.bok (by omega)) (show evN L ≤ 100000 by omega)
  have hall : x.all.length ≤ 100000 := by rw [h.rel.all]; have : (entsF L).length = evN L := rfl; omega
  clear h
  obtain ⟨wb, hwb⟩ : ∃ wb, wb = w.alloc (.cells #[.int .i64 kd, .string s, .string k, .int .i64 N, .int .i64 M, .slice la ll lc, .string bs, .string bk, .int .i64 bf, .slice ba bl bc] 39) := ⟨_, rfl⟩
  have hxb : Ext w wb := by rw [hwb]; exact (Ext.refl _).alloc _
  have hrb : wb.heap[w.heap.size]? = some (.cells #[.int .i64 kd, .string s, .string k, .int .i64 N, .int .i64 M, .slice la ll lc, .string bs, .string bk, .int .i64 bf, .slice ba bl bc] 39 (0, 0)) := by rw [hwb]; exact heap_alloc_new _ _
  have hz0 : wb.heap.size = w.heap.size + 1 := by rw [hwb]; simp
  go_enter Try.func40, Try.ntmps40
  go_wp2_with fail
  rw [← hwb]
  have HXB := hid hxb
  obtain ⟨g0, hg0⟩ : ∃ g0, w.heap.size = g0 := ⟨_, rfl⟩
  rw [hg0] at hz0 ⊢
  have HRB := hid (show wb.heap[g0]? = _ from hg0 ▸ hrb)
  have HG0 := hid hg0
  clear hwb hxb hrb hg0
  refine (Names_idx wb T g x (H.out.idx.ext HXB.out) (by omega)).mono ?_
  rintro e w1 ⟨v1, l, rfl, ho1, hnm, hll, hx1⟩
  have hln : l = namesR L := H.out.rel.names H.out.inv hnm
  subst hln
  obtain ⟨a1, c1, rfl⟩ := ho1.slice
  have HX1 := hid (HXB.out.trans hx1)
  have HRB1 := hid ((Below.block hx1 g0 (by omega)).trans HRB.out)
  have HO1 := hid ho1
  have hz1 := hx1.size
  clear hnm hx1 ho1
  go_wp2_with fail
  refine (RNames_any w1 U r L (H.out.rix.rix.ext HX1.out) (by omega)).mono ?_
  rintro e w2 ⟨v2, rfl, ho2, hx2⟩
  have HX2 := hid (HX1.out.trans hx2)
  have HRB2 := hid ((Below.block hx2 g0 (by omega)).trans HRB1.out)
  have HO2 := hid (HO1.out.ext hx2)
  have hz2 := hx2.size
  have HV2 := hid ho2.rd
  clear hx2 ho2
  go_wp2_with fail
  refine (SameTexts_self w2 _ _ _ _ (namesR L) HO2.out.rd HV2.out).mono ?_
  rintro e w3 ⟨rfl, hx3⟩
  have HX3 := hid (HX2.out.trans hx3)
  have HRB3 := hid ((Below.block hx3 g0 (by omega)).trans HRB2.out)
  have HO3 := hid (HO2.out.ext hx3)
  have hz3 := hx3.size
  have hrow : 0 < (namesR L).length → ∃ gq cur, a1 = some ⟨gq, 0, none⟩ ∧ wb.heap.size ≤ gq ∧ w3.heap[gq]? = some (.cells cur 9 (0, 0)) ∧ ∀ j, j < (namesR L).length → ∃ y, w3.cell? ⟨gq, j, none⟩ = some y := fun h0 => by
    obtain ⟨gq, cc, cur, e, h1, -, -, h4⟩ := HO3.out.headS h0
    simp only [Value.slice.injEq] at e
    refine ⟨gq, cur, e.1, h1, h4, fun j hj => ?_⟩
    obtain ⟨g2, o2, c2, e2, -, -, z0, -⟩ := HO3.out.rd.atS j hj
    simp only [Value.slice.injEq] at e2
    rw [e.1] at e2
    simp only [Option.some.injEq, Addr.mk.injEq] at e2
    obtain ⟨⟨rfl, rfl, -⟩, -, -⟩ := e2
    rw [Nat.zero_add] at z0
    exact ⟨_, z0⟩
  have HROW := hid hrow
  obtain ⟨LL, hLL⟩ : ∃ LL, (namesR L).length = LL := ⟨_, rfl⟩
  have hLb := namesR_len L []
  have hLb2 : LL ≤ 100000 := by rw [← hLL]; unfold namesR; simp at hLb; omega
  rw [hLL] at HROW ⊢
  clear hrow hx3 hLb hLL hll
  go_wp2_with fail
  go_loopw [9] (fun u9 wr => ∃ i : Nat, u9 = .int .i64 i ∧ i ≤ LL ∧ Shp w3 wr ∧ Keep (fun k => k < wb.heap.size) w3 wr) (fun u9 _ => LL - (intOf u9).toNat)
  case atStart => exact ⟨0, rfl, Nat.zero_le _, Shp.refl _, Keep.refl _ _⟩
  case round =>
    obtain ⟨i, rfl, hi, hshp, hk⟩ := hrel
    have HSH := hid hshp
    have HK := hid hk
    by_cases hlt : i < LL
    · obtain ⟨gq, cur, rfl, hq1, hq2, hq3⟩ := HROW.out (by omega)
      obtain ⟨y, hy⟩ := hq3 i hlt
      obtain ⟨⟨a0, d0⟩, f0⟩ := hshp.cell hq2 hy
      have i1 : (i : Int) < (LL : Int) := by omega
      have hw1 : IntKind.i64.wrap ((i : Int) + 1) = (i : Int) + 1 := by rw [IntKind.wrap_i64]; omega
      clear hshp hk hq2 hq3 hy
      go_wp2_with fail
      exact ⟨⟨i + 1, rfl, by omega, HSH.out.set _ _ _, HK.out.setCell (fun h => by simp only at h; omega) _⟩, by simp only [intOf]; omega⟩
    · have i1 : ¬ (i : Int) < (LL : Int) := by omega
      have hx4 : Ext w wr := Keep.ext (((HX3.out.keep (fun k => k < w.heap.size)).trans (hk.mono fun j hj _ => by have := HG0.out; omega)).mono fun j _ hl => hl)
      have HX4 := hid hx4
      have HRB4 := hid ((hk.block g0 (by omega) (by omega)).trans HRB3.out)
      have hz4 := hk.size
      have b2 := (cell_of_row _ _ 2 _ _ _ HRB4.out).trans rfl
      clear hshp hk hx4
      go_wp2_with fail
      refine (Keyed_idx wr T g x (H.out.idx.ext HX4.out) k hk).mono ?_
      rintro e w5 ⟨rfl, hx5⟩
      rw [H.out.rel.key k]
      obtain ⟨z, hz⟩ : ∃ z, keyR k L 0 = z := ⟨_, rfl⟩
      have HZ := hid hz
      rw [hz]
      obtain ⟨zs, ⟨y1, y2, y3, y4⟩, zt⟩ := z
      dsimp only
      have HX5 := hid (HX4.out.trans hx5)
      have HRB5 := hid ((Below.block hx5 g0 (by omega)).trans HRB4.out)
      have hz5 := hx5.size
      have b2 := (cell_of_row _ _ 2 _ _ _ HRB5.out).trans rfl
      have n1 : g0 < w5.heap.size := by omega
      have n2 : ¬ g0 = w5.heap.size := by omega
      have n3 : ¬ w5.heap.size = g0 := by omega
      clear hx5 hz
      go_wp2_with fail
      obtain ⟨wc, hwc⟩ : ∃ wc, wc = w5.alloc (.cells #[.int .i64 y1, .int .i64 y2, .int .i64 y3, .bool y4] 29) := ⟨_, rfl⟩
      rw [← hwc]
      have hxc : Ext w5 wc := by rw [hwc]; exact (Ext.refl _).alloc _
      have hC : wc.heap[w5.heap.size]? = some (.cells #[.int .i64 y1, .int .i64 y2, .int .i64 y3, .bool y4] 29) := by rw [hwc]; exact heap_alloc_new _ _
      obtain ⟨gC, hgC⟩ : ∃ gC, w5.heap.size = gC := ⟨_, rfl⟩
      have HC := hid (show wc.heap[gC]? = some (.cells #[.int .i64 y1, .int .i64 y2, .int .i64 y3, .bool y4] 29) from hgC ▸ hC)
      rw [hgC] at ⊢
      have hlC : gC < wc.heap.size := (Array.getElem?_eq_some_iff.1 HC.out).1
      have HXC := hid (HX5.out.trans hxc)
      have HRBC := hid ((Below.block hxc g0 n1).trans HRB5.out)
      have hg0C : g0 < gC := by omega
      clear hwc hxc hC hgC n2 n3
      refine (RKeyed_any wc U r L (H.out.rix.rix.ext HXC.out) HBK.2 (by omega) k hk).mono ?_
      rintro e w6 ⟨rfl, hx6⟩
      rw [HZ.out]
      dsimp only
      have HC6 := hid ((Below.block hx6 gC hlC).trans HC.out)
      have HX6 := hid (HXC.out.trans hx6)
      have HRB6 := hid ((Below.block hx6 g0 (by omega)).trans HRBC.out)
      have hz6 := hx6.size
      clear hx6
      go_wp2_with fail
      obtain ⟨wd, hwd⟩ : ∃ wd, wd = w6.alloc (.cells #[.int .i64 y1, .int .i64 y2, .int .i64 y3, .bool y4] 29) := ⟨_, rfl⟩
      rw [← hwd]
      have hxd0 : Ext w6 wd := by rw [hwd]; exact (Ext.refl _).alloc _
      have hD : wd.heap[w6.heap.size]? = some (.cells #[.int .i64 y1, .int .i64 y2, .int .i64 y3, .bool y4] 29) := by rw [hwd]; exact heap_alloc_new _ _
      obtain ⟨gD, hgD⟩ : ∃ gD, w6.heap.size = gD := ⟨_, rfl⟩
      have HD := hid (show wd.heap[gD]? = some (.cells #[.int .i64 y1, .int .i64 y2, .int .i64 y3, .bool y4] 29) from hgD ▸ hD)
      rw [hgD] at ⊢
      have HCD := hid ((Below.block hxd0 gC (by omega)).trans HC6.out)
      have HRBD := hid ((Below.block hxd0 g0 (by omega)).trans HRB6.out)
      have HXD := hid (HX6.out.trans hxd0)
      obtain ⟨⟨u0, u1, u2, u3⟩, -⟩ := row4 HCD.out
      obtain ⟨⟨u4, u5, u6, u7⟩, -⟩ := row4 HD.out
      have b1 := (cell_of_row _ _ 1 _ _ _ HRBD.out).trans rfl
      clear hwd hxd0 hD hgD
      have hxd : Ext wd wd.drew := by (· repeat (first | (with_reducible assumption) | exact Ext.refl _ | refine Ext.alloc ?_ _ | refine Ext.drew ?_ | refine Ext.drewN ?_ _ | (apply Ext.snart; (with_reducible assumption))))
      have HDR := hid hxd
      refine wp_region_T (fun w' => w'.cell? ⟨gC, 0, none⟩ = some (.int .i64 y1) ∧ w'.cell? ⟨gC, 1, none⟩ = some (.int .i64 y2) ∧ w'.cell? ⟨gC, 2, none⟩ = some (.int .i64 y3) ∧ w'.cell? ⟨gC, 3, none⟩ = some (.bool y4) ∧ w'.cell? ⟨gD, 0, none⟩ = some (.int .i64 y1) ∧ w'.cell? ⟨gD, 1, none⟩ = some (.int .i64 y2) ∧ w'.cell? ⟨gD, 2, none⟩ = some (.int .i64 y3) ∧ w'.cell? ⟨gD, 3, none⟩ = some (.bool y4) ∧ w'.cell? ⟨g0, 1, none⟩ = some (.string s)) [] (by kernel_rfl) ⟨Ext.cellS hxd u0, Ext.cellS hxd u1, Ext.cellS hxd u2, Ext.cellS hxd u3, Ext.cellS hxd u4, Ext.cellS hxd u5, Ext.cellS hxd u6, Ext.cellS hxd u7, Ext.cellS hxd b1⟩ (fun hS => ?_)
      clear hxd
      have e1 := str_tt (a := zs) rfl
      (refine wpAnyT_take (i := 0) (v := ?_) rfl (by kernel_rfl) (by kernel_rfl) (by kernel_rfl) (by kernel_rfl) (fun _ _ _ h => h) (Or.inl ⟨by rfl, ?_⟩) (by assumption) ?_; rotate_left; ((intro wS hSw; (try dsimp only at hSw); (try simp only [List.getElem_toArray, List.getElem_cons_zero, List.getElem_cons_succ]); go_simp); (try with_reducible rfl)); (try simp only [Act.put, List.getElem_toArray, List.getElem_cons_zero, List.getElem_cons_succ, List.setIfInBounds_toArray, List.set_cons_zero, List.set_cons_succ]))
      (refine wpAnyT_take (i := 1) (v := ?_) rfl (by kernel_rfl) (by kernel_rfl) (by kernel_rfl) (by kernel_rfl) (fun _ _ _ h => h) (Or.inl ⟨by rfl, ?_⟩) (by assumption) ?_; rotate_left; ((intro wS hSw; (try dsimp only at hSw); (try simp only [List.getElem_toArray, List.getElem_cons_zero, List.getElem_cons_succ]); go_simp); (try with_reducible rfl)); (try simp only [Act.put, List.getElem_toArray, List.getElem_cons_zero, List.getElem_cons_succ, List.setIfInBounds_toArray, List.set_cons_zero, List.set_cons_succ]))
      (refine wpAnyT_take (i := 2) (v := ?_) rfl (by kernel_rfl) (by kernel_rfl) (by kernel_rfl) (by kernel_rfl) (fun _ _ _ h => h) (Or.inl ⟨by rfl, ?_⟩) (by assumption) ?_; rotate_left; ((intro wS hSw; (try dsimp only at hSw); (try simp only [List.getElem_toArray, List.getElem_cons_zero, List.getElem_cons_succ]); go_simp); (try with_reducible rfl)); (try simp only [Act.put, List.getElem_toArray, List.getElem_cons_zero, List.getElem_cons_succ, List.setIfInBounds_toArray, List.set_cons_zero, List.set_cons_succ]))
      (refine wpAnyT_take (i := 3) (v := ?_) rfl (by kernel_rfl) (by kernel_rfl) (by kernel_rfl) (by kernel_rfl) (fun _ _ _ h => h) (Or.inl ⟨by rfl, ?_⟩) (by assumption) ?_; rotate_left; ((intro wS hSw; (try dsimp only at hSw); (try simp only [List.getElem_toArray, List.getElem_cons_zero, List.getElem_cons_succ]); go_simp); (try with_reducible rfl)); (try simp only [Act.put, List.getElem_toArray, List.getElem_cons_zero, List.getElem_cons_succ, List.setIfInBounds_toArray, List.set_cons_zero, List.set_cons_succ]))
      (refine wpAnyT_take (i := 4) (v := ?_) rfl (by kernel_rfl) (by kernel_rfl) (by kernel_rfl) (by kernel_rfl) (fun _ _ _ h => h) (Or.inl ⟨by rfl, ?_⟩) (by assumption) ?_; rotate_left; ((intro wS hSw; (try dsimp only at hSw); (try simp only [List.getElem_toArray, List.getElem_cons_zero, List.getElem_cons_succ]); go_simp); (try with_reducible rfl)); (try simp only [Act.put, List.getElem_toArray, List.getElem_cons_zero, List.getElem_cons_succ, List.setIfInBounds_toArray, List.set_cons_zero, List.set_cons_succ]))
      (refine wpAnyT_take (i := 5) (v := ?_) rfl (by kernel_rfl) (by kernel_rfl) (by kernel_rfl) (by kernel_rfl) (fun _ _ _ h => h) (Or.inl ⟨by rfl, ?_⟩) (by assumption) ?_; rotate_left; ((intro wS hSw; (try dsimp only at hSw); (try simp only [List.getElem_toArray, List.getElem_cons_zero, List.getElem_cons_succ]); go_simp); (try with_reducible rfl)); (try simp only [Act.put, List.getElem_toArray, List.getElem_cons_zero, List.getElem_cons_succ, List.setIfInBounds_toArray, List.set_cons_zero, List.set_cons_succ]))
      (refine wpAnyT_take (i := 6) (v := ?_) rfl (by kernel_rfl) (by kernel_rfl) (by kernel_rfl) (by kernel_rfl) (fun _ _ _ h => h) (Or.inl ⟨by rfl, ?_⟩) (by assumption) ?_; rotate_left; ((intro wS hSw; (try dsimp only at hSw); (try simp only [List.getElem_toArray, List.getElem_cons_zero, List.getElem_cons_succ]); go_simp); (try with_reducible rfl)); (try simp only [Act.put, List.getElem_toArray, List.getElem_cons_zero, List.getElem_cons_succ, List.setIfInBounds_toArray, List.set_cons_zero, List.set_cons_succ]))
      (refine wpAnyT_take (i := 7) (v := ?_) rfl (by kernel_rfl) (by kernel_rfl) (by kernel_rfl) (by kernel_rfl) (fun _ _ _ h => h) (Or.inl ⟨by rfl, ?_⟩) (by assumption) ?_; rotate_left; ((intro wS hSw; (try dsimp only at hSw); (try simp only [List.getElem_toArray, List.getElem_cons_zero, List.getElem_cons_succ]); go_simp); (try with_reducible rfl)); (try simp only [Act.put, List.getElem_toArray, List.getElem_cons_zero, List.getElem_cons_succ, List.setIfInBounds_toArray, List.set_cons_zero, List.set_cons_succ]))
      (refine wpAnyT_take (i := 8) (v := ?_) rfl (by kernel_rfl) (by kernel_rfl) (by kernel_rfl) (by kernel_rfl) (fun _ _ _ h => h) (Or.inl ⟨by rfl, ?_⟩) (by assumption) ?_; rotate_left; ((intro wS hSw; (try dsimp only at hSw); (try simp only [List.getElem_toArray, List.getElem_cons_zero, List.getElem_cons_succ]); go_simp); (try with_reducible rfl)); (try simp only [Act.put, List.getElem_toArray, List.getElem_cons_zero, List.getElem_cons_succ, List.setIfInBounds_toArray, List.set_cons_zero, List.set_cons_succ]))
      (refine wpAnyT_take (i := 9) (v := ?_) rfl (by kernel_rfl) (by kernel_rfl) (by kernel_rfl) (by kernel_rfl) (fun _ _ _ h => h) (Or.inl ⟨by rfl, ?_⟩) (by assumption) ?_; rotate_left; ((intro wS hSw; (try dsimp only at hSw); (try simp only [List.getElem_toArray, List.getElem_cons_zero, List.getElem_cons_succ]); go_simp); (try with_reducible rfl)); (try simp only [Act.put, List.getElem_toArray, List.getElem_cons_zero, List.getElem_cons_succ, List.setIfInBounds_toArray, List.set_cons_zero, List.set_cons_succ]))
      (refine wpAnyT_take (i := 10) (v := ?_) rfl (by kernel_rfl) (by kernel_rfl) (by kernel_rfl) (by kernel_rfl) (fun _ _ _ h => h) (Or.inl ⟨by rfl, ?_⟩) (by assumption) ?_; rotate_left; ((intro wS hSw; (try dsimp only at hSw); (try simp only [List.getElem_toArray, List.getElem_cons_zero, List.getElem_cons_succ]); go_simp); (try with_reducible rfl)); (try simp only [Act.put, List.getElem_toArray, List.getElem_cons_zero, List.getElem_cons_succ, List.setIfInBounds_toArray, List.set_cons_zero, List.set_cons_succ]))
      (refine wpAnyT_take (i := 11) (v := ?_) rfl (by kernel_rfl) (by kernel_rfl) (by kernel_rfl) (by kernel_rfl) (fun _ _ _ h => h) (Or.inl ⟨by rfl, ?_⟩) (by assumption) ?_; rotate_left; ((intro wS hSw; (try dsimp only at hSw); (try simp only [List.getElem_toArray, List.getElem_cons_zero, List.getElem_cons_succ]); go_simp); (try with_reducible rfl)); (try simp only [Act.put, List.getElem_toArray, List.getElem_cons_zero, List.getElem_cons_succ, List.setIfInBounds_toArray, List.set_cons_zero, List.set_cons_succ]))
      (refine wpAnyT_take (i := 12) (v := ?_) rfl (by kernel_rfl) (by kernel_rfl) (by kernel_rfl) (by kernel_rfl) (fun _ _ _ h => h) (Or.inl ⟨by rfl, ?_⟩) (by assumption) ?_; rotate_left; ((intro wS hSw; (try dsimp only at hSw); (try simp only [List.getElem_toArray, List.getElem_cons_zero, List.getElem_cons_succ]); go_simp); (try with_reducible rfl)); (try simp only [Act.put, List.getElem_toArray, List.getElem_cons_zero, List.getElem_cons_succ, List.setIfInBounds_toArray, List.set_cons_zero, List.set_cons_succ]))
      (refine wpAnyT_take (i := 13) (v := ?_) rfl (by kernel_rfl) (by kernel_rfl) (by kernel_rfl) (by kernel_rfl) (fun _ _ _ h => h) (Or.inl ⟨by rfl, ?_⟩) (by assumption) ?_; rotate_left; ((intro wS hSw; (try dsimp only at hSw); (try simp only [List.getElem_toArray, List.getElem_cons_zero, List.getElem_cons_succ]); go_simp); (try with_reducible rfl)); (try simp only [Act.put, List.getElem_toArray, List.getElem_cons_zero, List.getElem_cons_succ, List.setIfInBounds_toArray, List.set_cons_zero, List.set_cons_succ]))
      (refine wpAnyT_take (i := 14) (v := ?_) rfl (by kernel_rfl) (by kernel_rfl) (by kernel_rfl) (by kernel_rfl) (fun _ _ _ h => h) (Or.inl ⟨by rfl, ?_⟩) (by assumption) ?_; rotate_left; ((intro wS hSw; (try dsimp only at hSw); (try simp only [List.getElem_toArray, List.getElem_cons_zero, List.getElem_cons_succ]); go_simp); (try with_reducible rfl)); (try simp only [Act.put, List.getElem_toArray, List.getElem_cons_zero, List.getElem_cons_succ, List.setIfInBounds_toArray, List.set_cons_zero, List.set_cons_succ]))
      (refine wpAnyT_take (i := 15) (v := ?_) rfl (by kernel_rfl) (by kernel_rfl) (by kernel_rfl) (by kernel_rfl) (fun _ _ _ h => h) (Or.inl ⟨by rfl, ?_⟩) (by assumption) ?_; rotate_left; ((intro wS hSw; (try dsimp only at hSw); (try simp only [List.getElem_toArray, List.getElem_cons_zero, List.getElem_cons_succ]); go_simp); (try with_reducible rfl)); (try simp only [Act.put, List.getElem_toArray, List.getElem_cons_zero, List.getElem_cons_succ, List.setIfInBounds_toArray, List.set_cons_zero, List.set_cons_succ]))
      (refine wpAnyT_take (i := 16) (v := ?_) rfl (by kernel_rfl) (by kernel_rfl) (by kernel_rfl) (by kernel_rfl) (fun _ _ _ h => h) (Or.inl ⟨by rfl, ?_⟩) (by assumption) ?_; rotate_left; ((intro wS hSw; (try dsimp only at hSw); (try simp only [List.getElem_toArray, List.getElem_cons_zero, List.getElem_cons_succ]); go_simp); (try with_reducible rfl)); (try simp only [Act.put, List.getElem_toArray, List.getElem_cons_zero, List.getElem_cons_succ, List.setIfInBounds_toArray, List.set_cons_zero, List.set_cons_succ]))
      (refine wpAnyT_take (i := 17) (v := ?_) rfl (by kernel_rfl) (by kernel_rfl) (by kernel_rfl) (by kernel_rfl) (fun _ _ _ h => h) (Or.inl ⟨by rfl, ?_⟩) (by assumption) ?_; rotate_left; ((intro wS hSw; (try dsimp only at hSw); (try simp only [List.getElem_toArray, List.getElem_cons_zero, List.getElem_cons_succ]); go_simp); (try with_reducible rfl)); (try simp only [Act.put, List.getElem_toArray, List.getElem_cons_zero, List.getElem_cons_succ, List.setIfInBounds_toArray, List.set_cons_zero, List.set_cons_succ]))
      (refine wpAnyT_take (i := 19) (v := ?_) rfl (by kernel_rfl) (by kernel_rfl) (by kernel_rfl) (by kernel_rfl) (fun _ _ _ h => h) (Or.inl ⟨by rfl, ?_⟩) (by assumption) ?_; rotate_left; ((intro wS hSw; (try dsimp only at hSw); (try simp only [List.getElem_toArray, List.getElem_cons_zero, List.getElem_cons_succ]); go_simp); (try with_reducible rfl)); (try simp only [Act.put, List.getElem_toArray, List.getElem_cons_zero, List.getElem_cons_succ, List.setIfInBounds_toArray, List.set_cons_zero, List.set_cons_succ]))
      refine wpAnyT_all (rs := [18]) (by kernel_rfl) (by decide) (AllT.consS rfl (fun K hK => ?_) AllT.nil)
      go_simp
      go_at_call 20
      refine (Len_idx wd.drew T g x (H.out.idx.ext (HXD.out.trans HDR.out)) (by omega)).mono ?_
      rintro e w7 ⟨rfl, rfl⟩
      have hal : x.all.length = evN L := by rw [H.out.rel.all]; rfl
      rw [hal]
      (refine hK.out _ _ (hS) (fun hS => ?_); clear hK K)
      refine wpAnyT_all (rs := [20]) (by kernel_rfl) (by decide) (AllT.consS rfl (fun K hK => ?_) AllT.nil)
      go_simp
      go_at_call 39
      refine (REntries_any wd.drew U r L (H.out.rix.rix.ext (HXD.out.trans HDR.out)) HBK.2 (by omega) HBK.1).mono ?_
      rintro e w8 ⟨v8, S8, rfl, ho8, -, hx8⟩
      obtain ⟨a8, c8, rfl⟩ := ho8.slice
      have hlE : (entsF L).length = evN L := rfl
      rw [hlE]
      have HX8 := hid ((HXD.out.trans HDR.out).trans hx8)
      have s8 := hx8
      clear hlE ho8
      obtain ⟨ne, hne⟩ : ∃ ne, evN L = ne := ⟨_, rfl⟩
      rw [hne] at ⊢
      (refine hK.out _ _ (⟨Ext.cellS s8 hS.1, Ext.cellS s8 hS.2.1, Ext.cellS s8 hS.2.2.1, Ext.cellS s8 hS.2.2.2.1, Ext.cellS s8 hS.2.2.2.2.1, Ext.cellS s8 hS.2.2.2.2.2.1, Ext.cellS s8 hS.2.2.2.2.2.2.1, Ext.cellS s8 hS.2.2.2.2.2.2.2.1, Ext.cellS s8 hS.2.2.2.2.2.2.2.2⟩) (fun hS => ?_); clear hK K)
      clear s8
      (refine wpAnyT_take (i := 21) (v := ?_) rfl (by kernel_rfl) (by kernel_rfl) (by kernel_rfl) (by kernel_rfl) (fun _ _ _ h => h) (Or.inl ⟨by rfl, ?_⟩) (by assumption) ?_; rotate_left; ((intro wS hSw; (try dsimp only at hSw); (try simp only [List.getElem_toArray, List.getElem_cons_zero, List.getElem_cons_succ]); go_simp); (try with_reducible rfl)); (try simp only [Act.put, List.getElem_toArray, List.getElem_cons_zero, List.getElem_cons_succ, List.setIfInBounds_toArray, List.set_cons_zero, List.set_cons_succ]))
      (refine wpAnyT_take (i := 22) (v := ?_) rfl (by kernel_rfl) (by kernel_rfl) (by kernel_rfl) (by kernel_rfl) (fun _ _ _ h => h) (Or.inl ⟨by rfl, ?_⟩) (by assumption) ?_; rotate_left; ((intro wS hSw; (try dsimp only at hSw); (try simp only [List.getElem_toArray, List.getElem_cons_zero, List.getElem_cons_succ]); go_simp); (try with_reducible rfl)); (try simp only [Act.put, List.getElem_toArray, List.getElem_cons_zero, List.getElem_cons_succ, List.setIfInBounds_toArray, List.set_cons_zero, List.set_cons_succ]))
      (refine wpAnyT_take (i := 23) (v := ?_) rfl (by kernel_rfl) (by kernel_rfl) (by kernel_rfl) (by kernel_rfl) (fun _ _ _ h => h) (Or.inl ⟨by rfl, ?_⟩) (by assumption) ?_; rotate_left; ((intro wS hSw; (try dsimp only at hSw); (try simp only [List.getElem_toArray, List.getElem_cons_zero, List.getElem_cons_succ]); go_simp); (try with_reducible rfl)); (try simp only [Act.put, List.getElem_toArray, List.getElem_cons_zero, List.getElem_cons_succ, List.setIfInBounds_toArray, List.set_cons_zero, List.set_cons_succ]))
      (refine wpAnyT_take (i := 24) (v := ?_) rfl (by kernel_rfl) (by kernel_rfl) (by kernel_rfl) (by kernel_rfl) (fun _ _ _ h => h) (Or.inl ⟨by rfl, ?_⟩) (by assumption) ?_; rotate_left; ((intro wS hSw; (try dsimp only at hSw); (try simp only [List.getElem_toArray, List.getElem_cons_zero, List.getElem_cons_succ]); go_simp); (try with_reducible rfl)); (try simp only [Act.put, List.getElem_toArray, List.getElem_cons_zero, List.getElem_cons_succ, List.setIfInBounds_toArray, List.set_cons_zero, List.set_cons_succ]))
      (refine wpAnyT_take (i := 25) (v := ?_) rfl (by kernel_rfl) (by kernel_rfl) (by kernel_rfl) (by kernel_rfl) (fun _ _ _ h => h) (Or.inl ⟨by rfl, ?_⟩) (by assumption) ?_; rotate_left; ((intro wS hSw; (try dsimp only at hSw); (try simp only [List.getElem_toArray, List.getElem_cons_zero, List.getElem_cons_succ]); go_simp); (try with_reducible rfl)); (try simp only [Act.put, List.getElem_toArray, List.getElem_cons_zero, List.getElem_cons_succ, List.setIfInBounds_toArray, List.set_cons_zero, List.set_cons_succ]))
      (refine wpAnyT_take (i := 26) (v := ?_) rfl (by kernel_rfl) (by kernel_rfl) (by kernel_rfl) (by kernel_rfl) (fun _ _ _ h => h) (Or.inl ⟨by rfl, ?_⟩) (by assumption) ?_; rotate_left; ((intro wS hSw; (try dsimp only at hSw); (try simp only [List.getElem_toArray, List.getElem_cons_zero, List.getElem_cons_succ]); go_simp); (try with_reducible rfl)); (try simp only [Act.put, List.getElem_toArray, List.getElem_cons_zero, List.getElem_cons_succ, List.setIfInBounds_toArray, List.set_cons_zero, List.set_cons_succ]))
      (refine wpAnyT_take (i := 27) (v := ?_) rfl (by kernel_rfl) (by kernel_rfl) (by kernel_rfl) (by kernel_rfl) (fun _ _ _ h => h) (Or.inl ⟨by rfl, ?_⟩) (by assumption) ?_; rotate_left; ((intro wS hSw; (try dsimp only at hSw); (try simp only [List.getElem_toArray, List.getElem_cons_zero, List.getElem_cons_succ]); go_simp); (try with_reducible rfl)); (try simp only [Act.put, List.getElem_toArray, List.getElem_cons_zero, List.getElem_cons_succ, List.setIfInBounds_toArray, List.set_cons_zero, List.set_cons_succ]))
      (refine wpAnyT_take (i := 29) (v := ?_) rfl (by kernel_rfl) (by kernel_rfl) (by kernel_rfl) (by kernel_rfl) (fun _ _ _ h => h) (Or.inl ⟨by rfl, ?_⟩) (by assumption) ?_; rotate_left; ((intro wS hSw; (try dsimp only at hSw); (try simp only [List.getElem_toArray, List.getElem_cons_zero, List.getElem_cons_succ]); go_simp); (try with_reducible rfl)); (try simp only [Act.put, List.getElem_toArray, List.getElem_cons_zero, List.getElem_cons_succ, List.setIfInBounds_toArray, List.set_cons_zero, List.set_cons_succ]))
      (refine wpAnyT_take (i := 30) (v := ?_) rfl (by kernel_rfl) (by kernel_rfl) (by kernel_rfl) (by kernel_rfl) (fun _ _ _ h => h) (Or.inl ⟨by rfl, ?_⟩) (by assumption) ?_; rotate_left; ((intro wS hSw; (try dsimp only at hSw); (try simp only [List.getElem_toArray, List.getElem_cons_zero, List.getElem_cons_succ]); go_simp); (try with_reducible rfl)); (try simp only [Act.put, List.getElem_toArray, List.getElem_cons_zero, List.getElem_cons_succ, List.setIfInBounds_toArray, List.set_cons_zero, List.set_cons_succ]))
      (refine wpAnyT_take (i := 31) (v := ?_) rfl (by kernel_rfl) (by kernel_rfl) (by kernel_rfl) (by kernel_rfl) (fun _ _ _ h => h) (Or.inl ⟨by rfl, ?_⟩) (by assumption) ?_; rotate_left; ((intro wS hSw; (try dsimp only at hSw); (try simp only [List.getElem_toArray, List.getElem_cons_zero, List.getElem_cons_succ]); go_simp); (try with_reducible rfl)); (try simp only [Act.put, List.getElem_toArray, List.getElem_cons_zero, List.getElem_cons_succ, List.setIfInBounds_toArray, List.set_cons_zero, List.set_cons_succ]))
      refine wpAnyT_all (rs := [28]) (by kernel_rfl) (by decide) (AllT.consS rfl (fun K hK => ?_) AllT.nil)
      go_simp
      go_at_call 16
      obtain ⟨w9, hw9⟩ : ∃ w9, w9 = w8 := ⟨_, rfl⟩
      refine (Version_idx w8 T g x (H.out.idx.ext HX8.out) s hs).mono ?_
      rintro e w10 ⟨rfl, rfl⟩
      rw [H.out.rel.len s]
      (refine hK.out _ _ (hS) (fun hS => ?_); clear hK K)
      refine wpAnyT_all (rs := [32]) (by kernel_rfl) (by decide) (AllT.consS rfl (fun K hK => ?_) AllT.nil)
      go_simp
      go_at_call 80
      refine (ROf_any w8 U r L (H.out.rix.rix.ext HX8.out) HBK.2 (by omega) HBK.1 s hs).mono ?_
      rintro e w11 ⟨v11, rfl, S11, ho11, -, hx11⟩
      obtain ⟨a11, c11, rfl⟩ := ho11.slice
      have HX11 := hid (HX8.out.trans hx11)
      have s11 := hx11
      clear ho11
      obtain ⟨no, hno⟩ : ∃ no, (ofF (entsF L) s).length = no := ⟨_, rfl⟩
      rw [hno] at ⊢
      (refine hK.out _ _ (⟨Ext.cellS s11 hS.1, Ext.cellS s11 hS.2.1, Ext.cellS s11 hS.2.2.1, Ext.cellS s11 hS.2.2.2.1, Ext.cellS s11 hS.2.2.2.2.1, Ext.cellS s11 hS.2.2.2.2.2.1, Ext.cellS s11 hS.2.2.2.2.2.2.1, Ext.cellS s11 hS.2.2.2.2.2.2.2.1, Ext.cellS s11 hS.2.2.2.2.2.2.2.2⟩) (fun hS => ?_); clear hK K)
      clear s11
      (refine wpAnyT_take (i := 33) (v := ?_) rfl (by kernel_rfl) (by kernel_rfl) (by kernel_rfl) (by kernel_rfl) (fun _ _ _ h => h) (Or.inl ⟨by rfl, ?_⟩) (by assumption) ?_; rotate_left; ((intro wS hSw; (try dsimp only at hSw); (try simp only [List.getElem_toArray, List.getElem_cons_zero, List.getElem_cons_succ]); go_simp); (try with_reducible rfl)); (try simp only [Act.put, List.getElem_toArray, List.getElem_cons_zero, List.getElem_cons_succ, List.setIfInBounds_toArray, List.set_cons_zero, List.set_cons_succ]))
      (refine wpAnyT_take (i := 34) (v := ?_) rfl (by kernel_rfl) (by kernel_rfl) (by kernel_rfl) (by kernel_rfl) (fun _ _ _ h => h) (Or.inl ⟨by rfl, ?_⟩) (by assumption) ?_; rotate_left; ((intro wS hSw; (try dsimp only at hSw); (try simp only [List.getElem_toArray, List.getElem_cons_zero, List.getElem_cons_succ]); go_simp); (try with_reducible rfl)); (try simp only [Act.put, List.getElem_toArray, List.getElem_cons_zero, List.getElem_cons_succ, List.setIfInBounds_toArray, List.set_cons_zero, List.set_cons_succ]))
      (refine wpAnyT_take (i := 35) (v := ?_) rfl (by kernel_rfl) (by kernel_rfl) (by kernel_rfl) (by kernel_rfl) (fun _ _ _ h => h) (Or.inl ⟨by rfl, ?_⟩) (by assumption) ?_; rotate_left; ((intro wS hSw; (try dsimp only at hSw); (try simp only [List.getElem_toArray, List.getElem_cons_zero, List.getElem_cons_succ]); go_simp); (try with_reducible rfl)); (try simp only [Act.put, List.getElem_toArray, List.getElem_cons_zero, List.getElem_cons_succ, List.setIfInBounds_toArray, List.set_cons_zero, List.set_cons_succ]))
      refine wpAnyT_all (rs := [36]) (by kernel_rfl) (by decide) (AllT.consS rfl (fun K hK => ?_) AllT.nil)
      go_simp
      (refine hK.out _ _ (hS) (fun hS => ?_); clear hK K)
      refine wpAnyT_done (by kernel_rfl) (NoPanic.normal ?_) _
      clear hS
      go_wp2_with fail
      go_ret
      exact ⟨rfl, HX11.out⟩
end Go.Proofs.Ythobhkmphjnlaaa

/- Stream, All and Cut at any two numbers. -/
namespace Go.Proofs.Ythobhkmphjnlaaa
open Go.RowKit Go.Maps
set_option linter.unusedVariables false
set_option linter.unusedSimpArgs false

def cutE (l : List Ent) (p q : Int) : List Ent × Int := if p < 0 ∨ q < 0 then ([], 1) else ((l.drop p.toNat).take q.toNat, 0)
theorem cutE_bad {l : List Ent} {p q : Int} (h : p < 0 ∨ q < 0) : cutE l p q = ([], 1) := by unfold cutE; rw [if_pos h]
theorem cutE_nat (l : List Ent) (p q : Nat) : cutE l p q = ((l.drop p).take q, 0) := by unfold cutE; rw [if_neg (by omega)]; simp

set_option maxRecDepth 100000 in
set_option maxHeartbeats 1000000 in
theorem Stream_bad (w : World) (g : Nat) (s : ByteArray) (p q : Int) (h : p < 0 ∨ q < 0) :
    Calls Try.prog 36 #[.pointer (some ⟨g, 0, none⟩), .string s, .int .i64 p, .int .i64 q] w fun e w' => e = .returned (.tuple #[.slice none 0 0, .int .i64 1]) ∧ w = w' := by
  by_cases h1 : p < 0
  all_goals
    try have h2 : q < 0 := by omega
    go_enter Try.func36, Try.ntmps36
    go_wp2_with fail
    refine bodyPost_ret (v := .tuple #[.slice none 0 0, .int .i64 1]) (by simp [results, Try.results36, go_sem]) rfl ⟨rfl, rfl⟩
set_option maxRecDepth 100000 in
set_option maxHeartbeats 1000000 in
theorem All_bad (w : World) (g : Nat) (p q : Int) (h : p < 0 ∨ q < 0) :
    Calls Try.prog 25 #[.pointer (some ⟨g, 0, none⟩), .int .i64 p, .int .i64 q] w fun e w' => e = .returned (.tuple #[.slice none 0 0, .int .i64 1]) ∧ w = w' := by
  by_cases h1 : p < 0
  all_goals
    try have h2 : q < 0 := by omega
    go_enter Try.func25, Try.ntmps25
    go_wp2_with fail
    refine bodyPost_ret (v := .tuple #[.slice none 0 0, .int .i64 1]) (by simp [results, Try.results25, go_sem]) rfl ⟨rfl, rfl⟩

theorem newRow {w w' : World} {v : Value} {l : List Ent} {S' : Nat → Prop} (h1 : OwnS rEntO 71 w' w.heap.size S' v l) (h2 : ∀ k, S' k → w.heap.size ≤ k ∧ k < w'.heap.size) :
    RdSO rEntO 71 w' (fun k => w.heap.size ≤ k ∧ k < w'.heap.size) v l :=
  h1.rdO.mono fun k hk hl => ⟨by rcases hk with hk | hk; exact (h2 k hk).1; exact (h1.lt k hk).1, hl⟩

theorem Stream_cut (w : World) (B n g r : Nat) (x : Ix) (L : List Bat) (T E U : Nat → Prop) (h : Sd w B n g r x L T E U) (hn : n ≤ 1000) (s : ByteArray) (hs : s.size ≤ 9223372036854775807) (p q : Int) (hp : p ≤ 9223372036854775807) (hq : q ≤ 9223372036854775807) :
    Calls Try.prog 36 #[.pointer (some ⟨g, 0, none⟩), .string s, .int .i64 p, .int .i64 q] w fun e w' => ∃ v, e = .returned (.tuple #[v, .int .i64 (cutE (ofF (entsF L) s) p q).2]) ∧ RdSO rEntO 71 w' (fun k => w.heap.size ≤ k ∧ k < w'.heap.size) v (cutE (ofF (entsF L) s) p q).1 ∧ Ext w w' := by
  by_cases hb : p < 0 ∨ q < 0
  · refine (Stream_bad w g s p q hb).mono ?_
    rintro e w' ⟨rfl, rfl⟩
    rw [cutE_bad hb]
    exact ⟨_, rfl, RdSO.nil _ _ _ _, Ext.refl _⟩
  · obtain ⟨p, rfl⟩ := Int.eq_ofNat_of_zero_le (show 0 ≤ p by omega)
    obtain ⟨q, rfl⟩ := Int.eq_ofNat_of_zero_le (show 0 ≤ q by omega)
    have hL2 := h.inv.ev
    have hall : x.all.length ≤ 100000 := by rw [h.rel.all]; have : (entsF L).length = evN L := rfl; omega
    have hstr : (x.str s).length ≤ 100000 := by rw [h.rel.len, ← h.rel.all]; exact Nat.le_trans (ofF_len _ _) hall
    refine (Stream_idx w T g x h.idx (by omega) (h.rel.fields h.inv) s hs (h.rel.good.range s) (by omega) p q (by omega) (by omega)).mono ?_
    rintro e w' ⟨v, S', rfl, ho, hS, hx⟩
    rw [cutE_nat]
    have he : atF x (((x.str s).drop p).take q) = ((ofF (entsF L) s).drop p).take q := by
      rw [← h.rel.all, ← h.rel.of s]; unfold atF; rw [List.map_take, List.map_drop]
    rw [he] at ho
    exact ⟨v, rfl, newRow ho hS, hx⟩
theorem All_cut (w : World) (B n g r : Nat) (x : Ix) (L : List Bat) (T E U : Nat → Prop) (h : Sd w B n g r x L T E U) (hn : n ≤ 1000) (p q : Int) (hp : p ≤ 9223372036854775807) (hq : q ≤ 9223372036854775807) :
    Calls Try.prog 25 #[.pointer (some ⟨g, 0, none⟩), .int .i64 p, .int .i64 q] w fun e w' => ∃ v, e = .returned (.tuple #[v, .int .i64 (cutE (entsF L) p q).2]) ∧ RdSO rEntO 71 w' (fun k => w.heap.size ≤ k ∧ k < w'.heap.size) v (cutE (entsF L) p q).1 ∧ Ext w w' := by
  by_cases hb : p < 0 ∨ q < 0
  · refine (All_bad w g p q hb).mono ?_
    rintro e w' ⟨rfl, rfl⟩
    rw [cutE_bad hb]
    exact ⟨_, rfl, RdSO.nil _ _ _ _, Ext.refl _⟩
  · obtain ⟨p, rfl⟩ := Int.eq_ofNat_of_zero_le (show 0 ≤ p by omega)
    obtain ⟨q, rfl⟩ := Int.eq_ofNat_of_zero_le (show 0 ≤ q by omega)
    have hL2 := h.inv.ev
    have hall : x.all.length ≤ 100000 := by rw [h.rel.all]; have : (entsF L).length = evN L := rfl; omega
    refine (All_idx2 w T g x h.idx (by omega) (h.rel.fields h.inv) p q (by omega) (by omega)).mono ?_
    rintro e w' ⟨v, S', rfl, ho, hS, hx⟩
    rw [cutE_nat, ← h.rel.all]
    exact ⟨v, rfl, newRow ho hS, hx⟩
theorem RCut_cut (w : World) (S : Nat → Prop) (v : Value) (xs : List Ent) (h : RdS rEnt w S v xs) (p q : Int) (hp : p ≤ 9223372036854775807) (hq : q ≤ 9223372036854775807) :
    Calls Try.prog 79 #[v, .int .i64 p, .int .i64 q] w fun e w' => ∃ v', e = .returned (.tuple #[v', .int .i64 (cutE xs p q).2]) ∧ RdS rEnt w S v' (cutE xs p q).1 ∧ w = w' := by
  by_cases hb : p < 0 ∨ q < 0
  · obtain ⟨a, c, rfl, -, -⟩ := h.slice
    refine (RCut_bad w _ _ _ p q hb).mono ?_
    rintro e w' ⟨rfl, rfl⟩
    rw [cutE_bad hb]
    exact ⟨_, rfl, RdS.nil _ _ _, rfl⟩
  · obtain ⟨p, rfl⟩ := Int.eq_ofNat_of_zero_le (show 0 ≤ p by omega)
    obtain ⟨q, rfl⟩ := Int.eq_ofNat_of_zero_le (show 0 ≤ q by omega)
    refine (RCut_any w S v xs h p q (by omega) (by omega)).mono ?_
    rintro e w' ⟨v, rfl, ho, hx⟩
    rw [cutE_nat]
    exact ⟨v, rfl, ho, hx⟩
end Go.Proofs.Ythobhkmphjnlaaa

/- cartularylaw10's do, all kinds but 3. -/
namespace Go.Proofs.Ythobhkmphjnlaaa
open Go.RowKit Go.Maps
set_option linter.unusedVariables false
set_option linter.unusedSimpArgs false

set_option maxRecDepth 100000 in
set_option maxHeartbeats 4000000 in
theorem do10_4 (w : World) (B n g r : Nat) (x : Ix) (L : List Bat) (T E U : Nat → Prop) (h : Sd w B n g r x L T E U) (hn : n ≤ 1000) (hB : B ≤ w.heap.size) (kd N M bf : Int) (hkd : kd = 4) (s k bs bk : ByteArray) (lv bev : Value) (l : List Ev)
    (hs : s.size ≤ 9223372036854775807) (hk : k.size ≤ 9223372036854775807) (hN : -9223372036854775808 ≤ N ∧ N ≤ 9223372036854775807) (hM : -9223372036854775808 ≤ M ∧ M ≤ 9223372036854775807) (hl : RdS rE w (fun k => k < B) lv l) (hl48 : l.length * 48 ≤ 140737488351232) (hf48 : ∀ e ∈ l, e.2.2.length * 48 ≤ 140737488351232) (hbev : bev.oneCell' = true) :
    Calls Try.prog 37 #[.pointer (some ⟨g, 0, none⟩), .pointer (some ⟨r, 0, none⟩), .agg #[.int .i64 kd, .string s, .string k, .int .i64 N, .int .i64 M, lv, .string bs, .string bk, .int .i64 bf, bev]] w (SdEnd w B (n + 1) g r) := by
  obtain ⟨la, lc, rfl, -, -⟩ := hl.slice
  obtain ⟨wb, hwb⟩ : ∃ wb, wb = w.alloc (.cells #[.int .i64 kd, .string s, .string k, .int .i64 N, .int .i64 M, .slice la l.length lc, .string bs, .string bk, .int .i64 bf, bev] 39) := ⟨_, rfl⟩
  have hxb : Ext w wb := by rw [hwb]; exact (Ext.refl _).alloc _
  have hrb : wb.heap[w.heap.size]? = some (.cells #[.int .i64 kd, .string s, .string k, .int .i64 N, .int .i64 M, .slice la l.length lc, .string bs, .string bk, .int .i64 bf, bev] 39 (0, 0)) := by rw [hwb]; exact heap_alloc_new _ _
  have hz0 : wb.heap.size = w.heap.size + 1 := by rw [hwb]; simp
  have H := hid (h.ext hxb)
  have HB := hid hB
  have hL1 := h.inv.len
  have hL2 := h.inv.ev
  have HBK := And.intro (h.inv.bok (by omega)) (show evN L ≤ 100000 by omega)
  have H0 := hid h
  have HL := hid (hl.ext hxb)
  clear h hl
  subst hkd
  go_enter Try.func37, Try.ntmps37
  go_wp2_with fail
  rw [← hwb]
  have HXB := hid hxb
  obtain ⟨g0, hg0⟩ : ∃ g0, w.heap.size = g0 := ⟨_, rfl⟩
  rw [hg0] at hz0 ⊢
  have HRB := hid (show wb.heap[g0]? = _ from hg0 ▸ hrb)
  have HG0 := hid hg0
  clear hwb hxb hrb hg0 hB
  refine (Stream_cut wb B n g r x L T E U H.out hn s hs N M hN.2 hM.2).mono ?_
  rintro e w1 ⟨v1, rfl, ho1, hx1⟩
  obtain ⟨a1, c1, rfl, -, -⟩ := RdSO.slice ho1
  have HX1 := hid (HXB.out.trans hx1)
  have HRB1 := hid ((Below.block hx1 g0 (by omega)).trans HRB.out)
  have HO1 := hid ho1
  have hz1 := hx1.size
  have b1 := (cell_of_row _ _ 1 _ _ _ HRB1.out).trans rfl
  have b3 := (cell_of_row _ _ 3 _ _ _ HRB1.out).trans rfl
  have b4 := (cell_of_row _ _ 4 _ _ _ HRB1.out).trans rfl
  clear hx1 ho1
  obtain ⟨cl, hcl⟩ : ∃ cl, (cutE (ofF (entsF L) s) N M).1 = cl := ⟨_, rfl⟩
  obtain ⟨ce, hce⟩ : ∃ ce, (cutE (ofF (entsF L) s) N M).2 = ce := ⟨_, rfl⟩
  rw [hcl] at HO1 ⊢
  rw [hce]
  have HCL := hid hcl
  have HCE := hid hce
  clear hcl hce
  go_wp2_with fail
  have hxd : Ext w1 w1.drew := by (· repeat (first | (with_reducible assumption) | exact Ext.refl _ | refine Ext.alloc ?_ _ | refine Ext.drew ?_ | refine Ext.drewN ?_ _ | (apply Ext.snart; (with_reducible assumption))))
  have HDR := hid (HX1.out.trans hxd)
  refine wp_region_T (fun w' => w'.cell? ⟨g0, 1, none⟩ = some (.string s) ∧ w'.cell? ⟨g0, 3, none⟩ = some (.int .i64 N) ∧ w'.cell? ⟨g0, 4, none⟩ = some (.int .i64 M)) [] (by kernel_rfl) ⟨Ext.cellS hxd b1, Ext.cellS hxd b3, Ext.cellS hxd b4⟩ (fun hS => ?_)
  have hzd := hxd.size
  have HO1d := hid (RdSO.ext HO1.out hxd)
  clear hxd
  (refine wpAnyT_take (i := 0) (v := ?_) rfl (by kernel_rfl) (by kernel_rfl) (by kernel_rfl) (by kernel_rfl) (fun _ _ _ h => h) (Or.inl ⟨by rfl, ?_⟩) (by assumption) ?_; rotate_left; ((intro wS hSw; (try dsimp only at hSw); (try simp only [List.getElem_toArray, List.getElem_cons_zero, List.getElem_cons_succ]); go_simp); (try with_reducible rfl)); (try simp only [Act.put, List.getElem_toArray, List.getElem_cons_zero, List.getElem_cons_succ, List.setIfInBounds_toArray, List.set_cons_zero, List.set_cons_succ]))
  (refine wpAnyT_take (i := 1) (v := ?_) rfl (by kernel_rfl) (by kernel_rfl) (by kernel_rfl) (by kernel_rfl) (fun _ _ _ h => h) (Or.inl ⟨by rfl, ?_⟩) (by assumption) ?_; rotate_left; ((intro wS hSw; (try dsimp only at hSw); (try simp only [List.getElem_toArray, List.getElem_cons_zero, List.getElem_cons_succ]); go_simp); (try with_reducible rfl)); (try simp only [Act.put, List.getElem_toArray, List.getElem_cons_zero, List.getElem_cons_succ, List.setIfInBounds_toArray, List.set_cons_zero, List.set_cons_succ]))
  (refine wpAnyT_take (i := 2) (v := ?_) rfl (by kernel_rfl) (by kernel_rfl) (by kernel_rfl) (by kernel_rfl) (fun _ _ _ h => h) (Or.inl ⟨by rfl, ?_⟩) (by assumption) ?_; rotate_left; ((intro wS hSw; (try dsimp only at hSw); (try simp only [List.getElem_toArray, List.getElem_cons_zero, List.getElem_cons_succ]); go_simp); (try with_reducible rfl)); (try simp only [Act.put, List.getElem_toArray, List.getElem_cons_zero, List.getElem_cons_succ, List.setIfInBounds_toArray, List.set_cons_zero, List.set_cons_succ]))
  (refine wpAnyT_take (i := 4) (v := ?_) rfl (by kernel_rfl) (by kernel_rfl) (by kernel_rfl) (by kernel_rfl) (fun _ _ _ h => h) (Or.inl ⟨by rfl, ?_⟩) (by assumption) ?_; rotate_left; ((intro wS hSw; (try dsimp only at hSw); (try simp only [List.getElem_toArray, List.getElem_cons_zero, List.getElem_cons_succ]); go_simp); (try with_reducible rfl)); (try simp only [Act.put, List.getElem_toArray, List.getElem_cons_zero, List.getElem_cons_succ, List.setIfInBounds_toArray, List.set_cons_zero, List.set_cons_succ]))
  (refine wpAnyT_take (i := 5) (v := ?_) rfl (by kernel_rfl) (by kernel_rfl) (by kernel_rfl) (by kernel_rfl) (fun _ _ _ h => h) (Or.inl ⟨by rfl, ?_⟩) (by assumption) ?_; rotate_left; ((intro wS hSw; (try dsimp only at hSw); (try simp only [List.getElem_toArray, List.getElem_cons_zero, List.getElem_cons_succ]); go_simp); (try with_reducible rfl)); (try simp only [Act.put, List.getElem_toArray, List.getElem_cons_zero, List.getElem_cons_succ, List.setIfInBounds_toArray, List.set_cons_zero, List.set_cons_succ]))
  (refine wpAnyT_take (i := 6) (v := ?_) rfl (by kernel_rfl) (by kernel_rfl) (by kernel_rfl) (by kernel_rfl) (fun _ _ _ h => h) (Or.inl ⟨by rfl, ?_⟩) (by assumption) ?_; rotate_left; ((intro wS hSw; (try dsimp only at hSw); (try simp only [List.getElem_toArray, List.getElem_cons_zero, List.getElem_cons_succ]); go_simp); (try with_reducible rfl)); (try simp only [Act.put, List.getElem_toArray, List.getElem_cons_zero, List.getElem_cons_succ, List.setIfInBounds_toArray, List.set_cons_zero, List.set_cons_succ]))
  (refine wpAnyT_take (i := 7) (v := ?_) rfl (by kernel_rfl) (by kernel_rfl) (by kernel_rfl) (by kernel_rfl) (fun _ _ _ h => h) (Or.inl ⟨by rfl, ?_⟩) (by assumption) ?_; rotate_left; ((intro wS hSw; (try dsimp only at hSw); (try simp only [List.getElem_toArray, List.getElem_cons_zero, List.getElem_cons_succ]); go_simp); (try with_reducible rfl)); (try simp only [Act.put, List.getElem_toArray, List.getElem_cons_zero, List.getElem_cons_succ, List.setIfInBounds_toArray, List.set_cons_zero, List.set_cons_succ]))
  refine wpAnyT_all (rs := [3]) (by kernel_rfl) (by decide) (AllT.consS rfl (fun K hK => ?_) AllT.nil)
  go_simp
  go_at_call 80
  refine (ROf_any w1.drew U r L (H0.out.rix.rix.ext HDR.out) HBK.2 (by omega) HBK.1 s hs).mono ?_
  rintro e w2 ⟨v2, rfl, S2, ho2, -, hx2⟩
  have HX2 := hid (HDR.out.trans hx2)
  have HO2 := hid ho2.rd
  have HO12 := hid (RdSO.ext HO1d.out hx2)
  have s2 := hx2
  have hz2 := hx2.size
  clear ho2 hx2
  (refine hK.out _ _ (⟨Ext.cellS s2 hS.1, Ext.cellS s2 hS.2.1, Ext.cellS s2 hS.2.2⟩) (fun hS => ?_); clear hK K)
  clear s2
  refine wpAnyT_all (rs := [8]) (by kernel_rfl) (by decide) (AllT.consS rfl (fun K hK => ?_) AllT.nil)
  go_simp
  go_at_call 79
  refine (RCut_cut w2 _ v2 _ HO2.out N M hN.2 hM.2).mono ?_
  rintro e w3 ⟨v3, rfl, ho3, rfl⟩
  rw [HCL.out] at ho3
  rw [HCE.out]
  have HO3 := hid ho3
  obtain ⟨a3, c3, rfl, -, -⟩ := ho3.slice
  clear ho3
  (refine hK.out _ _ (hS) (fun hS => ?_); clear hK K)
  (refine wpAnyT_take (i := 9) (v := ?_) rfl (by kernel_rfl) (by kernel_rfl) (by kernel_rfl) (by kernel_rfl) (fun _ _ _ h => h) (Or.inl ⟨by rfl, ?_⟩) (by assumption) ?_; rotate_left; ((intro wS hSw; (try dsimp only at hSw); (try simp only [List.getElem_toArray, List.getElem_cons_zero, List.getElem_cons_succ]); go_simp); (try with_reducible rfl)); (try simp only [Act.put, List.getElem_toArray, List.getElem_cons_zero, List.getElem_cons_succ, List.setIfInBounds_toArray, List.set_cons_zero, List.set_cons_succ]))
  (refine wpAnyT_take (i := 10) (v := ?_) rfl (by kernel_rfl) (by kernel_rfl) (by kernel_rfl) (by kernel_rfl) (fun _ _ _ h => h) (Or.inl ⟨by rfl, ?_⟩) (by assumption) ?_; rotate_left; ((intro wS hSw; (try dsimp only at hSw); (try simp only [List.getElem_toArray, List.getElem_cons_zero, List.getElem_cons_succ]); go_simp); (try with_reducible rfl)); (try simp only [Act.put, List.getElem_toArray, List.getElem_cons_zero, List.getElem_cons_succ, List.setIfInBounds_toArray, List.set_cons_zero, List.set_cons_succ]))
  (refine wpAnyT_take (i := 11) (v := ?_) rfl (by kernel_rfl) (by kernel_rfl) (by kernel_rfl) (by kernel_rfl) (fun _ _ _ h => h) (Or.inl ⟨by rfl, ?_⟩) (by assumption) ?_; rotate_left; ((intro wS hSw; (try dsimp only at hSw); (try simp only [List.getElem_toArray, List.getElem_cons_zero, List.getElem_cons_succ]); go_simp); (try with_reducible rfl)); (try simp only [Act.put, List.getElem_toArray, List.getElem_cons_zero, List.getElem_cons_succ, List.setIfInBounds_toArray, List.set_cons_zero, List.set_cons_succ]))
  refine wpAnyT_all (rs := [12]) (by kernel_rfl) (by decide) (AllT.consS rfl (fun K hK => ?_) AllT.nil)
  go_simp
  (refine hK.out _ _ (hS) (fun hS => ?_); clear hK K)
  refine wpAnyT_all (rs := [13]) (by kernel_rfl) (by decide) (AllT.consS rfl (fun K hK => ?_) AllT.nil)
  go_simp
  (refine hK.out _ _ (hS) (fun hS => ?_); clear hK K)
  refine wpAnyT_done (by kernel_rfl) (NoPanic.normal ?_) _
  clear hS
  go_wp2_with fail
  refine (entries_any w2 _ _ _ _ cl HO12.out HO3.out ce).mono ?_
  rintro e w4 ⟨rfl, hk4⟩
  have HK4 := hid (show Keep (fun k => k < w.heap.size) w w4 from (HX2.out.keep _).trans (hk4.mono fun j hj _ e => by have := e.1; have := HG0.out; omega))
  clear hk4
  go_wp2_with fail
  go_ret
  exact ⟨rfl, ⟨x, L, T, E, U, (H0.out.kept HK4.out).mono (by omega)⟩, HK4.out.mono fun j hj _ => Nat.lt_of_lt_of_le hj HB.out⟩
set_option maxRecDepth 100000 in
set_option maxHeartbeats 4000000 in
theorem do10_5 (w : World) (B n g r : Nat) (x : Ix) (L : List Bat) (T E U : Nat → Prop) (h : Sd w B n g r x L T E U) (hn : n ≤ 1000) (hB : B ≤ w.heap.size) (kd N M bf : Int) (hkd : kd = 5) (s k bs bk : ByteArray) (lv bev : Value) (l : List Ev)
    (hs : s.size ≤ 9223372036854775807) (hk : k.size ≤ 9223372036854775807) (hN : -9223372036854775808 ≤ N ∧ N ≤ 9223372036854775807) (hM : -9223372036854775808 ≤ M ∧ M ≤ 9223372036854775807) (hl : RdS rE w (fun k => k < B) lv l) (hl48 : l.length * 48 ≤ 140737488351232) (hf48 : ∀ e ∈ l, e.2.2.length * 48 ≤ 140737488351232) (hbev : bev.oneCell' = true) :
    Calls Try.prog 37 #[.pointer (some ⟨g, 0, none⟩), .pointer (some ⟨r, 0, none⟩), .agg #[.int .i64 kd, .string s, .string k, .int .i64 N, .int .i64 M, lv, .string bs, .string bk, .int .i64 bf, bev]] w (SdEnd w B (n + 1) g r) := by
  obtain ⟨la, lc, rfl, -, -⟩ := hl.slice
  obtain ⟨wb, hwb⟩ : ∃ wb, wb = w.alloc (.cells #[.int .i64 kd, .string s, .string k, .int .i64 N, .int .i64 M, .slice la l.length lc, .string bs, .string bk, .int .i64 bf, bev] 39) := ⟨_, rfl⟩
  have hxb : Ext w wb := by rw [hwb]; exact (Ext.refl _).alloc _
  have hrb : wb.heap[w.heap.size]? = some (.cells #[.int .i64 kd, .string s, .string k, .int .i64 N, .int .i64 M, .slice la l.length lc, .string bs, .string bk, .int .i64 bf, bev] 39 (0, 0)) := by rw [hwb]; exact heap_alloc_new _ _
  have hz0 : wb.heap.size = w.heap.size + 1 := by rw [hwb]; simp
  have H := hid (h.ext hxb)
  have HB := hid hB
  have hL1 := h.inv.len
  have hL2 := h.inv.ev
  have HBK := And.intro (h.inv.bok (by omega)) (show evN L ≤ 100000 by omega)
  have H0 := hid h
  have HL := hid (hl.ext hxb)
  clear h hl
  subst hkd
  go_enter Try.func37, Try.ntmps37
  go_wp2_with fail
  rw [← hwb]
  have HXB := hid hxb
  obtain ⟨g0, hg0⟩ : ∃ g0, w.heap.size = g0 := ⟨_, rfl⟩
  rw [hg0] at hz0 ⊢
  have HRB := hid (show wb.heap[g0]? = _ from hg0 ▸ hrb)
  have HG0 := hid hg0
  clear hwb hxb hrb hg0 hB
  refine (All_cut wb B n g r x L T E U H.out hn N M hN.2 hM.2).mono ?_
  rintro e w1 ⟨v1, rfl, ho1, hx1⟩
  obtain ⟨a1, c1, rfl, -, -⟩ := RdSO.slice ho1
  have HX1 := hid (HXB.out.trans hx1)
  have HRB1 := hid ((Below.block hx1 g0 (by omega)).trans HRB.out)
  have HO1 := hid ho1
  have hz1 := hx1.size
  have b3 := (cell_of_row _ _ 3 _ _ _ HRB1.out).trans rfl
  have b4 := (cell_of_row _ _ 4 _ _ _ HRB1.out).trans rfl
  clear hx1 ho1
  obtain ⟨cl, hcl⟩ : ∃ cl, (cutE (entsF L) N M).1 = cl := ⟨_, rfl⟩
  obtain ⟨ce, hce⟩ : ∃ ce, (cutE (entsF L) N M).2 = ce := ⟨_, rfl⟩
  rw [hcl] at HO1 ⊢
  rw [hce]
  have HCL := hid hcl
  have HCE := hid hce
  clear hcl hce
  go_wp2_with fail
  have hxd : Ext w1 w1.drew := by (· repeat (first | (with_reducible assumption) | exact Ext.refl _ | refine Ext.alloc ?_ _ | refine Ext.drew ?_ | refine Ext.drewN ?_ _ | (apply Ext.snart; (with_reducible assumption))))
  have HDR := hid (HX1.out.trans hxd)
  refine wp_region_T (fun w' => w'.cell? ⟨g0, 3, none⟩ = some (.int .i64 N) ∧ w'.cell? ⟨g0, 4, none⟩ = some (.int .i64 M)) [] (by kernel_rfl) ⟨Ext.cellS hxd b3, Ext.cellS hxd b4⟩ (fun hS => ?_)
  have hzd := hxd.size
  have HO1d := hid (RdSO.ext HO1.out hxd)
  clear hxd
  (refine wpAnyT_take (i := 0) (v := ?_) rfl (by kernel_rfl) (by kernel_rfl) (by kernel_rfl) (by kernel_rfl) (fun _ _ _ h => h) (Or.inl ⟨by rfl, ?_⟩) (by assumption) ?_; rotate_left; ((intro wS hSw; (try dsimp only at hSw); (try simp only [List.getElem_toArray, List.getElem_cons_zero, List.getElem_cons_succ]); go_simp); (try with_reducible rfl)); (try simp only [Act.put, List.getElem_toArray, List.getElem_cons_zero, List.getElem_cons_succ, List.setIfInBounds_toArray, List.set_cons_zero, List.set_cons_succ]))
  (refine wpAnyT_take (i := 2) (v := ?_) rfl (by kernel_rfl) (by kernel_rfl) (by kernel_rfl) (by kernel_rfl) (fun _ _ _ h => h) (Or.inl ⟨by rfl, ?_⟩) (by assumption) ?_; rotate_left; ((intro wS hSw; (try dsimp only at hSw); (try simp only [List.getElem_toArray, List.getElem_cons_zero, List.getElem_cons_succ]); go_simp); (try with_reducible rfl)); (try simp only [Act.put, List.getElem_toArray, List.getElem_cons_zero, List.getElem_cons_succ, List.setIfInBounds_toArray, List.set_cons_zero, List.set_cons_succ]))
  (refine wpAnyT_take (i := 3) (v := ?_) rfl (by kernel_rfl) (by kernel_rfl) (by kernel_rfl) (by kernel_rfl) (fun _ _ _ h => h) (Or.inl ⟨by rfl, ?_⟩) (by assumption) ?_; rotate_left; ((intro wS hSw; (try dsimp only at hSw); (try simp only [List.getElem_toArray, List.getElem_cons_zero, List.getElem_cons_succ]); go_simp); (try with_reducible rfl)); (try simp only [Act.put, List.getElem_toArray, List.getElem_cons_zero, List.getElem_cons_succ, List.setIfInBounds_toArray, List.set_cons_zero, List.set_cons_succ]))
  (refine wpAnyT_take (i := 4) (v := ?_) rfl (by kernel_rfl) (by kernel_rfl) (by kernel_rfl) (by kernel_rfl) (fun _ _ _ h => h) (Or.inl ⟨by rfl, ?_⟩) (by assumption) ?_; rotate_left; ((intro wS hSw; (try dsimp only at hSw); (try simp only [List.getElem_toArray, List.getElem_cons_zero, List.getElem_cons_succ]); go_simp); (try with_reducible rfl)); (try simp only [Act.put, List.getElem_toArray, List.getElem_cons_zero, List.getElem_cons_succ, List.setIfInBounds_toArray, List.set_cons_zero, List.set_cons_succ]))
  (refine wpAnyT_take (i := 5) (v := ?_) rfl (by kernel_rfl) (by kernel_rfl) (by kernel_rfl) (by kernel_rfl) (fun _ _ _ h => h) (Or.inl ⟨by rfl, ?_⟩) (by assumption) ?_; rotate_left; ((intro wS hSw; (try dsimp only at hSw); (try simp only [List.getElem_toArray, List.getElem_cons_zero, List.getElem_cons_succ]); go_simp); (try with_reducible rfl)); (try simp only [Act.put, List.getElem_toArray, List.getElem_cons_zero, List.getElem_cons_succ, List.setIfInBounds_toArray, List.set_cons_zero, List.set_cons_succ]))
  refine wpAnyT_all (rs := [1]) (by kernel_rfl) (by decide) (AllT.consS rfl (fun K hK => ?_) AllT.nil)
  go_simp
  go_at_call 39
  refine (REntries_any w1.drew U r L (H0.out.rix.rix.ext HDR.out) HBK.2 (by omega) HBK.1).mono ?_
  rintro e w2 ⟨v2, S2, rfl, ho2, -, hx2⟩
  have HX2 := hid (HDR.out.trans hx2)
  have HO2 := hid ho2.rd
  have HO12 := hid (RdSO.ext HO1d.out hx2)
  have s2 := hx2
  have hz2 := hx2.size
  clear ho2 hx2
  (refine hK.out _ _ (⟨Ext.cellS s2 hS.1, Ext.cellS s2 hS.2⟩) (fun hS => ?_); clear hK K)
  clear s2
  refine wpAnyT_all (rs := [6]) (by kernel_rfl) (by decide) (AllT.consS rfl (fun K hK => ?_) AllT.nil)
  go_simp
  go_at_call 79
  refine (RCut_cut w2 _ v2 _ HO2.out N M hN.2 hM.2).mono ?_
  rintro e w3 ⟨v3, rfl, ho3, rfl⟩
  rw [HCL.out] at ho3
  rw [HCE.out]
  have HO3 := hid ho3
  obtain ⟨a3, c3, rfl, -, -⟩ := ho3.slice
  clear ho3
  (refine hK.out _ _ (hS) (fun hS => ?_); clear hK K)
  (refine wpAnyT_take (i := 7) (v := ?_) rfl (by kernel_rfl) (by kernel_rfl) (by kernel_rfl) (by kernel_rfl) (fun _ _ _ h => h) (Or.inl ⟨by rfl, ?_⟩) (by assumption) ?_; rotate_left; ((intro wS hSw; (try dsimp only at hSw); (try simp only [List.getElem_toArray, List.getElem_cons_zero, List.getElem_cons_succ]); go_simp); (try with_reducible rfl)); (try simp only [Act.put, List.getElem_toArray, List.getElem_cons_zero, List.getElem_cons_succ, List.setIfInBounds_toArray, List.set_cons_zero, List.set_cons_succ]))
  (refine wpAnyT_take (i := 8) (v := ?_) rfl (by kernel_rfl) (by kernel_rfl) (by kernel_rfl) (by kernel_rfl) (fun _ _ _ h => h) (Or.inl ⟨by rfl, ?_⟩) (by assumption) ?_; rotate_left; ((intro wS hSw; (try dsimp only at hSw); (try simp only [List.getElem_toArray, List.getElem_cons_zero, List.getElem_cons_succ]); go_simp); (try with_reducible rfl)); (try simp only [Act.put, List.getElem_toArray, List.getElem_cons_zero, List.getElem_cons_succ, List.setIfInBounds_toArray, List.set_cons_zero, List.set_cons_succ]))
  (refine wpAnyT_take (i := 9) (v := ?_) rfl (by kernel_rfl) (by kernel_rfl) (by kernel_rfl) (by kernel_rfl) (fun _ _ _ h => h) (Or.inl ⟨by rfl, ?_⟩) (by assumption) ?_; rotate_left; ((intro wS hSw; (try dsimp only at hSw); (try simp only [List.getElem_toArray, List.getElem_cons_zero, List.getElem_cons_succ]); go_simp); (try with_reducible rfl)); (try simp only [Act.put, List.getElem_toArray, List.getElem_cons_zero, List.getElem_cons_succ, List.setIfInBounds_toArray, List.set_cons_zero, List.set_cons_succ]))
  refine wpAnyT_all (rs := [10]) (by kernel_rfl) (by decide) (AllT.consS rfl (fun K hK => ?_) AllT.nil)
  go_simp
  (refine hK.out _ _ (hS) (fun hS => ?_); clear hK K)
  refine wpAnyT_all (rs := [11]) (by kernel_rfl) (by decide) (AllT.consS rfl (fun K hK => ?_) AllT.nil)
  go_simp
  (refine hK.out _ _ (hS) (fun hS => ?_); clear hK K)
  refine wpAnyT_done (by kernel_rfl) (NoPanic.normal ?_) _
  clear hS
  go_wp2_with fail
  refine (entries_any w2 _ _ _ _ cl HO12.out HO3.out ce).mono ?_
  rintro e w4 ⟨rfl, hk4⟩
  have HK4 := hid (show Keep (fun k => k < w.heap.size) w w4 from (HX2.out.keep _).trans (hk4.mono fun j hj _ e => by have := e.1; have := HG0.out; omega))
  clear hk4
  go_wp2_with fail
  go_ret
  exact ⟨rfl, ⟨x, L, T, E, U, (H0.out.kept HK4.out).mono (by omega)⟩, HK4.out.mono fun j hj _ => Nat.lt_of_lt_of_le hj HB.out⟩
end Go.Proofs.Ythobhkmphjnlaaa

/- cartularylaw10's do, tried, asked, none. -/
namespace Go.Proofs.Ythobhkmphjnlaaa
open Go.RowKit Go.Maps
set_option linter.unusedVariables false
set_option linter.unusedSimpArgs false

set_option maxRecDepth 100000 in
set_option maxHeartbeats 4000000 in
theorem do10_12 (w : World) (B n g r : Nat) (x : Ix) (L : List Bat) (T E U : Nat → Prop) (h : Sd w B n g r x L T E U) (hn : n ≤ 1000) (hB : B ≤ w.heap.size) (kd N M bf : Int) (hkd : kd = 1 ∨ kd = 2) (s k bs bk : ByteArray) (lv bev : Value) (l : List Ev)
    (hs : s.size ≤ 9223372036854775807) (hk : k.size ≤ 9223372036854775807) (hN : -9223372036854775808 ≤ N ∧ N ≤ 9223372036854775807) (hM : -9223372036854775808 ≤ M ∧ M ≤ 9223372036854775807) (hl : RdS rE w (fun k => k < B) lv l) (hl48 : l.length * 48 ≤ 140737488351232) (hf48 : ∀ e ∈ l, e.2.2.length * 48 ≤ 140737488351232) (hbev : bev.oneCell' = true) :
    Calls Try.prog 37 #[.pointer (some ⟨g, 0, none⟩), .pointer (some ⟨r, 0, none⟩), .agg #[.int .i64 kd, .string s, .string k, .int .i64 N, .int .i64 M, lv, .string bs, .string bk, .int .i64 bf, bev]] w (SdEnd w B (n + 1) g r) := by
  obtain ⟨la, lc, rfl, -, -⟩ := hl.slice
  obtain ⟨wb, hwb⟩ : ∃ wb, wb = w.alloc (.cells #[.int .i64 kd, .string s, .string k, .int .i64 N, .int .i64 M, .slice la l.length lc, .string bs, .string bk, .int .i64 bf, bev] 39) := ⟨_, rfl⟩
  have hxb : Ext w wb := by rw [hwb]; exact (Ext.refl _).alloc _
  have hrb : wb.heap[w.heap.size]? = some (.cells #[.int .i64 kd, .string s, .string k, .int .i64 N, .int .i64 M, .slice la l.length lc, .string bs, .string bk, .int .i64 bf, bev] 39 (0, 0)) := by rw [hwb]; exact heap_alloc_new _ _
  have hz0 : wb.heap.size = w.heap.size + 1 := by rw [hwb]; simp
  have H := hid (h.ext hxb)
  have HB := hid hB
  have hL1 := h.inv.len
  have hL2 := h.inv.ev
  have HBK := And.intro (h.inv.bok (by omega)) (show evN L ≤ 100000 by omega)
  have H0 := hid h
  have HL := hid (hl.ext hxb)
  clear h hl
  obtain ⟨la2, hla2⟩ : ∃ la2, la2 = la := ⟨_, rfl⟩
  rcases hkd with rfl | rfl
  all_goals
    go_enter Try.func37, Try.ntmps37
    go_wp2_with fail
    rw [← hwb]
    refine (tried_any wb B n g r x L T E U H.out hn (by omega) _ N M bf s k bs bk _ bev l hs hk hN HL.out hl48 hf48 hbev).mono ?_
    rintro e w1 ⟨rfl, hsd, hk1⟩
    have HSD := hid hsd
    have HK1 := hid hk1
    clear hsd hk1
    go_wp2_with fail
    go_ret
    exact ⟨rfl, HSD.out, ((hxb.keep _).trans HK1.out)⟩
set_option maxRecDepth 100000 in
set_option maxHeartbeats 4000000 in
theorem do10_6 (w : World) (B n g r : Nat) (x : Ix) (L : List Bat) (T E U : Nat → Prop) (h : Sd w B n g r x L T E U) (hn : n ≤ 1000) (hB : B ≤ w.heap.size) (kd N M bf : Int) (hkd : kd = 6) (ba : Option Addr) (bl bc : Nat) (s k bs bk : ByteArray) (lv : Value) (l : List Ev)
    (hs : s.size ≤ 9223372036854775807) (hk : k.size ≤ 9223372036854775807) (hN : -9223372036854775808 ≤ N ∧ N ≤ 9223372036854775807) (hM : -9223372036854775808 ≤ M ∧ M ≤ 9223372036854775807) (hl : RdS rE w (fun k => k < B) lv l) (hl48 : l.length * 48 ≤ 140737488351232) (hf48 : ∀ e ∈ l, e.2.2.length * 48 ≤ 140737488351232) :
    Calls Try.prog 37 #[.pointer (some ⟨g, 0, none⟩), .pointer (some ⟨r, 0, none⟩), .agg #[.int .i64 kd, .string s, .string k, .int .i64 N, .int .i64 M, lv, .string bs, .string bk, .int .i64 bf, .slice ba bl bc]] w (SdEnd w B (n + 1) g r) := by
  obtain ⟨la, lc, rfl, -, -⟩ := hl.slice
  obtain ⟨wb, hwb⟩ : ∃ wb, wb = w.alloc (.cells #[.int .i64 kd, .string s, .string k, .int .i64 N, .int .i64 M, .slice la l.length lc, .string bs, .string bk, .int .i64 bf, .slice ba bl bc] 39) := ⟨_, rfl⟩
  have hxb : Ext w wb := by rw [hwb]; exact (Ext.refl _).alloc _
  have hrb : wb.heap[w.heap.size]? = some (.cells #[.int .i64 kd, .string s, .string k, .int .i64 N, .int .i64 M, .slice la l.length lc, .string bs, .string bk, .int .i64 bf, .slice ba bl bc] 39 (0, 0)) := by rw [hwb]; exact heap_alloc_new _ _
  have hz0 : wb.heap.size = w.heap.size + 1 := by rw [hwb]; simp
  have H := hid (h.ext hxb)
  have HB := hid hB
  have hL1 := h.inv.len
  have hL2 := h.inv.ev
  have HBK := And.intro (h.inv.bok (by omega)) (show evN L ≤ 100000 by omega)
  have H0 := hid h
  have HL := hid (hl.ext hxb)
  clear h hl
  subst hkd
  go_enter Try.func37, Try.ntmps37
  go_wp2_with fail
  rw [← hwb]
  refine (asked10_any wb B n g r x L T E U H.out hn 6 N M bf s k bs bk (.slice none 0 0) (.slice none 0 0) hs hk la l.length lc ba bl bc).mono ?_
  rintro e w1 ⟨rfl, hx1⟩
  have HX1 := hid (hxb.trans hx1)
  clear hx1
  go_wp2_with fail
  go_ret
  exact ⟨rfl, ⟨x, L, T, E, U, (H0.out.ext HX1.out).mono (by omega)⟩, HX1.out.keep _⟩
set_option maxRecDepth 100000 in
set_option maxHeartbeats 4000000 in
theorem do10_else (w : World) (B n g r : Nat) (x : Ix) (L : List Bat) (T E U : Nat → Prop) (h : Sd w B n g r x L T E U) (hn : n ≤ 1000) (hB : B ≤ w.heap.size) (kd N M bf : Int) (hkd : kd ≠ 1 ∧ kd ≠ 2 ∧ kd ≠ 3 ∧ kd ≠ 4 ∧ kd ≠ 5 ∧ kd ≠ 6) (s k bs bk : ByteArray) (lv bev : Value) (l : List Ev)
    (hs : s.size ≤ 9223372036854775807) (hk : k.size ≤ 9223372036854775807) (hN : -9223372036854775808 ≤ N ∧ N ≤ 9223372036854775807) (hM : -9223372036854775808 ≤ M ∧ M ≤ 9223372036854775807) (hl : RdS rE w (fun k => k < B) lv l) (hl48 : l.length * 48 ≤ 140737488351232) (hf48 : ∀ e ∈ l, e.2.2.length * 48 ≤ 140737488351232) (hbev : bev.oneCell' = true) :
    Calls Try.prog 37 #[.pointer (some ⟨g, 0, none⟩), .pointer (some ⟨r, 0, none⟩), .agg #[.int .i64 kd, .string s, .string k, .int .i64 N, .int .i64 M, lv, .string bs, .string bk, .int .i64 bf, bev]] w (SdEnd w B (n + 1) g r) := by
  obtain ⟨la, lc, rfl, -, -⟩ := hl.slice
  obtain ⟨wb, hwb⟩ : ∃ wb, wb = w.alloc (.cells #[.int .i64 kd, .string s, .string k, .int .i64 N, .int .i64 M, .slice la l.length lc, .string bs, .string bk, .int .i64 bf, bev] 39) := ⟨_, rfl⟩
  have hxb : Ext w wb := by rw [hwb]; exact (Ext.refl _).alloc _
  have hrb : wb.heap[w.heap.size]? = some (.cells #[.int .i64 kd, .string s, .string k, .int .i64 N, .int .i64 M, .slice la l.length lc, .string bs, .string bk, .int .i64 bf, bev] 39 (0, 0)) := by rw [hwb]; exact heap_alloc_new _ _
  have hz0 : wb.heap.size = w.heap.size + 1 := by rw [hwb]; simp
  have H := hid (h.ext hxb)
  have HB := hid hB
  have hL1 := h.inv.len
  have hL2 := h.inv.ev
  have HBK := And.intro (h.inv.bok (by omega)) (show evN L ≤ 100000 by omega)
  have H0 := hid h
  have HL := hid (hl.ext hxb)
  clear h hl
  obtain ⟨d1, d2, d3, d4, d5, d6⟩ := hkd
  go_enter Try.func37, Try.ntmps37
  go_wp2_with fail
  rw [← hwb]
  go_ret
  exact ⟨rfl, ⟨x, L, T, E, U, (H0.out.ext hxb).mono (by omega)⟩, hxb.keep _⟩
end Go.Proofs.Ythobhkmphjnlaaa

/- cartularylaw10's do, kind 3. -/
namespace Go.Proofs.Ythobhkmphjnlaaa
open Go.RowKit Go.Maps
set_option linter.unusedVariables false
set_option linter.unusedSimpArgs false

theorem Sd.addZ {w w1 w2 : World} {B n g r : Nat} {x : Ix} {L : List Bat} {T E U : Nat → Prop} (h : Sd w B n g r x L T E U) (b : Bat) (hB : B ≤ w.heap.size) {T1 U2 : Nat → Prop} (h1 : Idx T1 w1 g (addF x b).1) (hT1 : ∀ k, T1 k → T k ∨ (w.heap.size ≤ k ∧ k < w1.heap.size)) (z1 : w.heap.size ≤ w1.heap.size)
    (h2 : RIxE E U2 w2 r (addR L b).1) (hU2 : ∀ k, U2 k → U k ∨ (w1.heap.size ≤ k ∧ k < w2.heap.size)) (hUU : ∀ k, U k → U2 k) (k2 : Keep (fun k => ¬ (U k ∧ ¬ E k)) w1 w2) : Sd w2 B (n + 1) g r (addF x b).1 (addR L b).1 T1 E U2 := by
  have z2 := k2.size
  refine ⟨h1.keep (k2.mono fun k hk hl e => ?_), h2, fun k hk e => ?_, (h.rel.add b).2, h.inv.add b, h.args, fun k hk => ?_, fun k hk => ?_, fun k hk => hUU k (h.EU k hk), fun k hk hn => ?_⟩
  · rcases hT1 k hk with h3 | h3
    · exact h.dis k h3 e.1
    · have := h.up k e.1; omega
  · rcases hT1 k hk with h3 | h3
    · rcases hU2 k e with h4 | h4
      · exact h.dis k h3 h4
      · have := (h.lo k h3).2; omega
    · rcases hU2 k e with h4 | h4
      · have := h.up k h4; omega
      · omega
  · rcases hT1 k hk with h3 | h3
    · have := h.lo k h3; omega
    · omega
  · rcases hU2 k hk with h4 | h4
    · have := h.up k h4; omega
    · omega
  · rcases hU2 k hk with h4 | h4
    · exact h.rlo k h4 hn
    · omega

set_option maxRecDepth 100000 in
set_option maxHeartbeats 4000000 in
theorem do10_3 (w : World) (B n g r : Nat) (x : Ix) (L : List Bat) (T E U : Nat → Prop) (h : Sd w B n g r x L T E U) (hn : n ≤ 1000) (hB : B ≤ w.heap.size) (N M bf : Int) (s k bs bk : ByteArray) (lv bev : Value) (be : List Ev)
    (hbs : bs.size ≤ 9223372036854775807) (hbk : bk.size ≤ 9223372036854775807) (hbf : -9223372036854775808 ≤ bf ∧ bf ≤ 9223372036854775807) (hbe : RdS rE w (fun k => k < B) bev be) (hl48 : be.length * 48 ≤ 140737488351232) (hf48 : ∀ e ∈ be, e.2.2.length * 48 ≤ 140737488351232) (hlv : lv.oneCell' = true) :
    Calls Try.prog 37 #[.pointer (some ⟨g, 0, none⟩), .pointer (some ⟨r, 0, none⟩), .agg #[.int .i64 3, .string s, .string k, .int .i64 N, .int .i64 M, lv, .string bs, .string bk, .int .i64 bf, bev]] w (SdEnd w B (n + 1) g r) := by
  obtain ⟨ba, bc, rfl, -, -⟩ := hbe.slice
  have H := hid h
  have HB := hid hB
  have HL := hid hbe
  have HL48 := hid hl48
  have HF48 := hid hf48
  have hL1 := h.inv.len
  have hL2 := h.inv.ev
  have HBK := And.intro (h.inv.bok (by omega)) (show evN L ≤ 100000 by omega)
  have hall : x.all.length ≤ 100000 := by rw [h.rel.all]; have : (entsF L).length = evN L := rfl; omega
  have hstr : ∀ s, (x.str s).length ≤ 100000 := fun s => by
    rw [h.rel.len]
    have h1 := ofF_len (entsF L) s
    have h2 : (entsF L).length = evN L := rfl
    omega
  clear h hbe hl48 hf48
  obtain ⟨wb, hwb⟩ : ∃ wb, wb = (w.alloc (.cells #[.int .i64 3, .string s, .string k, .int .i64 N, .int .i64 M, lv, .string bs, .string bk, .int .i64 bf, .slice ba be.length bc] 39)).alloc (.cells #[.string bs, .string bk, .int .i64 bf, .slice ba be.length bc] 31) := ⟨_, rfl⟩
  have hxb : Ext w wb := by rw [hwb]; exact ((Ext.refl _).alloc _).alloc _
  have hz0 : wb.heap.size = w.heap.size + 2 := by rw [hwb]; simp
  have hA : wb.heap[w.heap.size]? = some (.cells #[.int .i64 3, .string s, .string k, .int .i64 N, .int .i64 M, lv, .string bs, .string bk, .int .i64 bf, .slice ba be.length bc] 39 (0, 0)) := by rw [hwb]; exact (Below.block ((Ext.refl (w.alloc _)).alloc _) _ (by simp)).trans (heap_alloc_new _ _)
  have hB' : wb.heap[w.heap.size + 1]? = some (.cells #[.string bs, .string bk, .int .i64 bf, .slice ba be.length bc] 31 (0, 0)) := by
    rw [hwb]
    have := heap_alloc_new (w.alloc (.cells #[.int .i64 3, .string s, .string k, .int .i64 N, .int .i64 M, lv, .string bs, .string bk, .int .i64 bf, .slice ba be.length bc] 39)) (.cells #[.string bs, .string bk, .int .i64 bf, .slice ba be.length bc] 31)
    simpa using this
  go_enter Try.func37, Try.ntmps37
  go_wp2_with fail
  rw [← hwb]
  obtain ⟨g0, hg0⟩ : ∃ g0, w.heap.size = g0 := ⟨_, rfl⟩
  obtain ⟨gb, hgb⟩ : ∃ gb, g0 + 1 = gb := ⟨_, rfl⟩
  (try rw [hg0])
  (try rw [hgb])
  have HXB := hid hxb
  have HA := hid (show wb.heap[g0]? = _ from hg0 ▸ hA)
  have HBB := hid (show wb.heap[gb]? = _ from hgb ▸ hg0 ▸ hB')
  have HG0 := hid (And.intro hg0 hgb)
  rw [hg0] at hz0
  clear hwb hxb hA hB' hg0
  refine (own10_any wb _ _ be (HL.out.ext HXB.out) HL48.out HF48.out).mono ?_
  rintro e w1 ⟨v1, rfl, hv1, hx1⟩
  obtain ⟨a1, c1, rfl, hac1, hac2⟩ := RdSO.slice hv1
  have HV1 := hid (RdSO.upto hv1)
  have HX1 := hid (HXB.out.trans hx1)
  have hz1 := hx1.size
  have HA1 := hid ((Below.block hx1 g0 (by omega)).trans HA.out)
  have HB1 := hid ((Below.block hx1 gb (by omega)).trans HBB.out)
  have b0 := (cell_of_row _ _ 0 _ _ _ HB1.out).trans rfl
  have b1 := (cell_of_row _ _ 1 _ _ _ HB1.out).trans rfl
  have b2 := (cell_of_row _ _ 2 _ _ _ HB1.out).trans rfl
  have b3 := (cell_of_row _ _ 3 _ _ _ HB1.out).trans rfl
  have f3 := frozen_blk HB1.out 3
  clear hv1 hx1
  go_wp2_with fail
  obtain ⟨W, hW⟩ : ∃ W, W = w1.setCell ⟨gb, 3, none⟩ (.slice a1 be.length c1) := ⟨_, rfl⟩
  rw [← hW]
  have c3 : W.cell? ⟨gb, 3, none⟩ = some (.slice a1 be.length c1) := by rw [hW]; go_simp
  have hkg : Keep (fun k => k ≠ gb) w1 W := by rw [hW]; exact (Keep.refl _ _).setCell (by simp) _
  have hzW : W.heap.size = w1.heap.size := by rw [hW]; simp
  have hgw : w.heap.size = g0 ∧ g0 + 1 = gb := HG0.out
  have HKW := hid (show Keep (fun k => k < w.heap.size) w W from (HX1.out.keep _).trans (hkg.mono fun k hk _ => by omega))
  have HAW := hid ((hkg.block g0 (by omega) (by omega)).trans HA1.out)
  have HVW := hid (RdSO.kept HV1.out (hkg.mono fun k hk _ => by have := hk.1; omega))
  have SD := hid (H.out.kept HKW.out)
  have hTl : ∀ k, T k → k < w.heap.size := fun k hk => (H.out.lo k hk).2
  clear hW hkg
  refine (Add_idx W T g x SD.out.idx hall bs hbs bk hbk bf hbf (fun k => wb.heap.size ≤ k ∧ k < w1.heap.size) (fun j hj e => by have := hTl j e; have := hj.1; omega) _ be (RdEs.read (RdMk.es HVW.out)) (by omega) (hstr bs)).mono ?_
  rintro e w3 ⟨rfl, hi3, hk3⟩
  have HI3 := hid hi3
  have HK3 := hid hk3
  have z3 := hk3.size
  have c3 := hk3.cell c3 (fun e => by have := hTl _ e; simp only at this; omega)
  have HV3 := hid (RdSO.kept HVW.out (hk3.mono fun j hj _ e => by have := hTl j e; have := hj.1; omega))
  have HA3 := hid ((hk3.block g0 (fun e => by have := hTl _ e; omega) (by omega)).trans HAW.out)
  have b9 := (cell_of_row _ _ 9 _ _ _ HA3.out).trans rfl
  clear hi3 hk3
  go_wp2_with fail
  have HBE3 := hid (RdS.kept HL.out ((HKW.out.mono fun j hj _ => Nat.lt_of_lt_of_le hj HB.out).trans (HK3.out.mono fun j hj _ e => by have := (H.out.lo j e).1; omega)))
  refine (held_any10 w3 _ _ _ _ be HV3.out HBE3.out).mono ?_
  rintro e w4 ⟨rfl, hx4⟩
  have HX4 := hid hx4
  have z4 := hx4.size
  have c4 := Ext.cellS hx4 c3
  have HV4 := hid (RdSO.ext HV3.out hx4)
  have HA4 := hid ((Below.block hx4 g0 (by omega)).trans HA3.out)
  clear hx4 b9
  go_wp2_with fail
  refine (spoil_any w4 _ _ be (RdMk.es HV4.out)).mono ?_
  rintro e w5 ⟨rfl, hk5⟩
  have HK5 := hid hk5
  have z5 := hk5.size
  have HA5 := hid ((hk5.block g0 (fun e => by have := e.1; omega) (by omega)).trans HA4.out)
  have b6 := (cell_of_row _ _ 6 _ _ _ HA5.out).trans rfl
  have b7 := (cell_of_row _ _ 7 _ _ _ HA5.out).trans rfl
  have b8 := (cell_of_row _ _ 8 _ _ _ HA5.out).trans rfl
  have b9 := (cell_of_row _ _ 9 _ _ _ HA5.out).trans rfl
  clear hk5
  go_wp2_with fail
  have h5 : Keep (fun k => k < w.heap.size ∧ ¬ T k) w w5 := (((HKW.out.mono fun k hk _ => hk.1).trans (HK3.out.mono fun k hk _ => hk.2)).trans (HX4.out.keep _)).trans (HK5.out.mono fun k hk _ e => by have := e.1; have := hk.1; omega)
  have HR5 := hid (H.out.rix.keep (h5.mono fun k hk _ => ⟨H.out.up k hk, fun e => H.out.dis k e hk⟩))
  have HE5 : ∀ k, E k → k < w5.heap.size := fun k hk => Nat.lt_of_lt_of_le (H.out.up k (H.out.EU k hk)) (by omega)
  have HB5 := hid ((RdS.kept HL.out (h5.mono fun k hk _ => ⟨Nat.lt_of_lt_of_le hk HB.out, fun e => by have := (H.out.lo k e).1; omega⟩)).mono (S' := E) fun k hk _ => H.out.args k hk)
  refine (RAdd_any w5 _ _ r L HR5.out HBK.2 (by omega) HBK.1 HE5 bs hbs bk hbk bf hbf _ be HB5.out (by omega)).mono ?_
  rintro e w6 ⟨rfl, hr6, hk6⟩
  have herr : (addF x (bs, bk, bf, be)).2 = (addR L (bs, bk, bf, be)).2 := (H.out.rel.add (bs, bk, bf, be)).1
  rw [herr]
  have SD6 := hid (SD.out.addZ (w1 := w5) (T1 := fun k => T k ∨ (W.heap.size ≤ k ∧ k < w3.heap.size)) (bs, bk, bf, be) (by have := HB.out; omega) ((HI3.out.keep (HX4.out.keep _)).keep (HK5.out.mono fun k hk _ e => by have := e.1; have := e.2; rcases hk with hk | hk; have := hTl k hk; omega; omega)) (fun k hk => hk.imp id fun hk => ⟨hk.1, by omega⟩) (by omega) hr6 (fun k hk => hk) (fun k hk => .inl hk) hk6)
  have HK6 := hid (show Keep (fun k => k < B) w w6 from (h5.mono fun k hk _ => ⟨Nat.lt_of_lt_of_le hk HB.out, fun e => by have := (H.out.lo k e).1; omega⟩).trans (hk6.mono fun j hj _ e => e.2 (H.out.args j hj)))
  generalize (addR L (bs, bk, bf, be)).2 = code
  clear hr6 hk6 herr
  go_wp2_with fail
  go_ret
  exact ⟨rfl, ⟨_, _, _, _, _, SD6.out⟩, HK6.out⟩
end Go.Proofs.Ythobhkmphjnlaaa

/- StreamsPlays, walked. -/
namespace Go.Proofs.Ythobhkmphjnlaaa
open Go.RowKit Go.Maps
set_option linter.unusedVariables false
set_option linter.unusedSimpArgs false

def FitEs (l : List Ev) : Prop := l.length * 48 ≤ 140737488351232 ∧ ∀ e ∈ l, e.2.2.length * 48 ≤ 140737488351232
def FitCl (c : Cl) : Prop := FitEs c.2.2.2.2.2.1 ∧ FitEs c.2.2.2.2.2.2.2.2.2

theorem do10_any (w : World) (B n g r : Nat) (x : Ix) (L : List Bat) (T E U : Nat → Prop) (h : Sd w B n g r x L T E U) (hn : n ≤ 1000) (hB : B ≤ w.heap.size) (kd N M bf : Int) (s k bs bk : ByteArray) (lv bev : Value) (l be : List Ev)
    (hs : s.size ≤ 9223372036854775807) (hk : k.size ≤ 9223372036854775807) (hN : -9223372036854775808 ≤ N ∧ N ≤ 9223372036854775807) (hM : -9223372036854775808 ≤ M ∧ M ≤ 9223372036854775807) (hl : RdS rE w (fun k => k < B) lv l) (hl48 : FitEs l)
    (hbs : bs.size ≤ 9223372036854775807) (hbk : bk.size ≤ 9223372036854775807) (hbf : -9223372036854775808 ≤ bf ∧ bf ≤ 9223372036854775807) (hbe : RdS rE w (fun k => k < B) bev be) (hb48 : FitEs be) :
    Calls Try.prog 37 #[.pointer (some ⟨g, 0, none⟩), .pointer (some ⟨r, 0, none⟩), .agg #[.int .i64 kd, .string s, .string k, .int .i64 N, .int .i64 M, lv, .string bs, .string bk, .int .i64 bf, bev]] w (SdEnd w B (n + 1) g r) := by
  have hlv : lv.oneCell' = true := by obtain ⟨a, c, rfl, -, -⟩ := hl.slice; rfl
  have hbv : bev.oneCell' = true := by obtain ⟨a, c, rfl, -, -⟩ := hbe.slice; rfl
  by_cases h12 : kd = 1 ∨ kd = 2
  · exact do10_12 w B n g r x L T E U h hn hB kd N M bf h12 s k bs bk lv bev l hs hk hN hM hl hl48.1 hl48.2 hbv
  by_cases h3 : kd = 3
  · subst h3
    exact do10_3 w B n g r x L T E U h hn hB N M bf s k bs bk lv bev be hbs hbk hbf hbe hb48.1 hb48.2 hlv
  by_cases h4 : kd = 4
  · exact do10_4 w B n g r x L T E U h hn hB kd N M bf h4 s k bs bk lv bev l hs hk hN hM hl hl48.1 hl48.2 hbv
  by_cases h5 : kd = 5
  · exact do10_5 w B n g r x L T E U h hn hB kd N M bf h5 s k bs bk lv bev l hs hk hN hM hl hl48.1 hl48.2 hbv
  by_cases h6 : kd = 6
  · obtain ⟨ba, bc, rfl, -, -⟩ := hbe.slice
    exact do10_6 w B n g r x L T E U h hn hB kd N M bf h6 ba be.length bc s k bs bk lv l hs hk hN hM hl hl48.1 hl48.2
  · exact do10_else w B n g r x L T E U h hn hB kd N M bf ⟨fun e => h12 (.inl e), fun e => h12 (.inr e), h3, h4, h5, h6⟩ s k bs bk lv bev l hs hk hN hM hl hl48.1 hl48.2 hbv

set_option maxRecDepth 100000 in
set_option maxHeartbeats 4000000 in
theorem streamsPlays_any (w : World) (sv : Value) (cs : List Cl) (hs : RdS rCl w (fun k => k < w.heap.size) sv cs) (hf : ∀ c ∈ cs, FitCl c) :
    Calls Try.prog 12 #[sv] w fun e w' => e = .returned (.bool true) ∧ Ext w w' := by
  obtain ⟨sa, sc, rfl, hsc1, hsc2⟩ := hs.slice
  have HS := hid hs
  have HF := hid hf
  clear hs hf
  go_enter Try.func12, Try.ntmps12
  go_wp2_with fail
  refine (awake10_any w).mono ?_
  rintro e w1 ⟨rfl, hx1⟩
  have HX1 := hid hx1
  clear hx1
  go_wp2_with fail
  refine (New_idx w1).mono ?_
  rintro e w2 ⟨g, rfl, hi2, hx2⟩
  have HI2 := hid hi2
  have HX2 := hid hx2
  clear hi2 hx2
  go_wp2_with fail
  obtain ⟨w3, hw3⟩ : ∃ w3, w3 = w2.alloc (.cells #[.slice none 0 0] 75) := ⟨_, rfl⟩
  rw [← hw3]
  obtain ⟨r, hr⟩ : ∃ r, w2.heap.size = r := ⟨_, rfl⟩
  rw [hr]
  have hx3 : Ext w2 w3 := by rw [hw3]; exact (Ext.refl _).alloc _
  have hb3 : w3.heap[r]? = some (.cells #[.slice none 0 0] 75 (0, 0)) := by rw [hw3, ← hr]; exact heap_alloc_new _ _
  have hz3 : w3.heap.size = r + 1 := by rw [hw3, ← hr]; simp
  have hs1 := HX1.out.size
  have hs2 := HX2.out.size
  have sd0 : Sd w3 w.heap.size 0 g r ix0 [] (fun k => w1.heap.size ≤ k ∧ k < w2.heap.size) (fun k => k < w.heap.size) (fun k => k < w.heap.size ∨ k = r) :=
    ⟨HI2.out.keep (hx3.keep _), ⟨_, fun _ => False, hb3, OwnS.nil _ _ _ _ _, .inr rfl, by show ¬ r < w.heap.size; omega, fun _ h => h.elim, fun k hk => by simp [Value.ownBlock] at hk, fun _ h => .inl h⟩,
      fun k h1 h2 => by rcases h2 with h2 | h2 <;> omega, Rel.zero, LInv.zero, fun _ h => h, fun k h => by omega, fun k h => by rcases h with h | h <;> omega, fun _ h => .inl h, fun k h1 h2 => by rcases h1 with h1 | h1; exact absurd h1 h2; omega⟩
  have SD0 := hid sd0
  have HX3 := hid ((HX1.out.trans HX2.out).trans hx3)
  clear hw3 hx3 hb3 hz3 hs1 hs2 sd0 HI2 HX1 HX2 hr
  go_wp2_with fail
  go_loopw [6] (fun u6 wr => ∃ i : Nat, ∃ x L T E U, u6 = .int .i64 i ∧ i ≤ 60 ∧ i ≤ cs.length ∧ Sd wr w.heap.size i g r x L T E U ∧ Ext w wr) (fun u6 _ => 60 - (intOf u6).toNat)
  case atStart => exact ⟨0, _, _, _, _, _, rfl, by omega, by omega, SD0.out, HX3.out⟩
  case round =>
    clear SD0 HX3
    obtain ⟨wo, rfl⟩ : ∃ wo : World, wo = wr := ⟨_, rfl⟩
    obtain ⟨i, x, L, T, E, U, rfl, hi40, hil, hsd, hx⟩ := hrel
    have SD := hid hsd
    have HX := hid hx
    have hzw := hx.size
    clear hsd
    go_upto_region 7 with fail
    go_cut [28] (fun s34 wx => s34 = .bool (decide (i < cs.length ∧ i < 60)) ∧ wx = wo)
    case first =>
      by_cases h1 : i < cs.length
      · by_cases h2 : i < 60
        · go_wp2_with fail
          go_meet
          exact ⟨congrArg Value.bool (by rw [decide_eq_decide]; omega), rfl⟩
        · go_wp2_with fail
          go_meet
          exact ⟨congrArg Value.bool (by rw [decide_eq_decide]; omega), rfl⟩
      · go_wp2_with fail
        go_meet
        exact ⟨congrArg Value.bool (decide_eq_false (p := i < cs.length ∧ i < 60) (by omega)).symm, rfl⟩
    case rest =>
    obtain ⟨rfl, rfl⟩ := hcut
    obtain ⟨wo, rfl⟩ : ∃ wo : World, wo = wc := ⟨_, rfl⟩
    by_cases hgo : i < cs.length ∧ i < 60
    · rw [decide_eq_true hgo]
      obtain ⟨hlt, hlt40⟩ := hgo
      obtain ⟨gl, ol, cap, lv, bev, e, hgl, -, d0, d1, d2, d3, d4, d5, d6, d7, d8, d9, hc0, hs1, hs2, hc3, hc4, hL, hb1, hb2, hb3, hBe⟩ := (HS.out.ext hx).atCl i hlt
      have hfit := HF.out cs[i] (List.getElem_mem hlt)
      simp only [Value.slice.injEq] at e
      obtain ⟨rfl, -, rfl⟩ := e
      generalize cs[i] = c at d0 d1 d2 d3 d4 d5 d6 d7 d8 d9 hc0 hs1 hs2 hc3 hc4 hL hb1 hb2 hb3 hBe hfit
      obtain ⟨ck, cst, cky, cn, cm, cl, bs, bk, bf, be⟩ := c
      dsimp only at d0 d1 d2 d3 d4 d5 d6 d7 d8 d9 hc0 hs1 hs2 hc3 hc4 hL hb1 hb2 hb3 hBe
      have HL := hid hL
      have HBE := hid hBe
      have i1 : (i : Int) < (cs.length : Int) := by omega
      have i3 : (0 : Int) ≤ (i : Int) := by omega
      have hw1 : IntKind.i64.wrap ((i : Int) + 1) = (i : Int) + 1 := by rw [IntKind.wrap_i64]; omega
      clear hL hBe hx
      go_wp2_with fail
      refine (do10_any wo w.heap.size i g r x L T E U SD.out (by omega) hzw ck cn cm bf cst cky bs bk lv bev cl be hs1 hs2 hc3 hc4 HL.out hfit.1 hb1 hb2 hb3 HBE.out hfit.2).mono ?_
      rintro e w4 ⟨rfl, ⟨x', L', T', E', U', hsd'⟩, hk4⟩
      have SD' := hid hsd'
      have HX4 := hid (show Ext w w4 from Keep.ext (((HX.out.keep (fun k => k < w.heap.size)).trans hk4).mono fun k _ hl => hl))
      clear hsd' hk4
      go_wp2_with fail
      exact ⟨⟨i + 1, x', L', T', E', U', rfl, by omega, by omega, SD'.out, HX4.out⟩, by simp only [intOf]; omega⟩
    · rw [decide_eq_false hgo]
      have hL2 := SD.out.inv.ev
      have hL1 := SD.out.inv.len
      have hce : cutE (entsF L) 0 1099511627776 = (entsF L, 0) := by
        have : (entsF L).length = evN L := rfl
        unfold cutE
        rw [if_neg (by omega)]
        simp only [Int.toNat_zero, List.drop_zero, Prod.mk.injEq, and_true]
        exact List.take_of_length_le (by omega)
      clear hx
      go_wp2_with fail
      refine (All_cut wo w.heap.size i g r x L T E U SD.out (by omega) 0 1099511627776 (by omega) (by omega)).mono ?_
      rw [hce]
      rintro e w4 ⟨v4, rfl, ho4, hx4⟩
      obtain ⟨a4, c4, rfl, -, -⟩ := RdSO.slice ho4
      have HO4 := hid ho4
      have HX4 := hid hx4
      clear ho4 hx4
      go_wp2_with fail
      refine (REntries_any w4 U r L (SD.out.rix.rix.ext HX4.out) (by omega) (by omega) (SD.out.inv.bok (by omega))).mono ?_
      rintro e w5 ⟨v5, S5, rfl, ho5, hS5, hx5⟩
      have HX5 := hid (HX4.out.trans hx5)
      have HO5 := hid ho5.rd
      have HO45 := hid (RdSO.ext HO4.out hx5)
      obtain ⟨a5, c5, rfl⟩ := ho5.slice
      clear ho5 hx5
      go_wp2_with fail
      refine (entries_any w5 _ _ _ _ (entsF L) HO45.out HO5.out 0).mono ?_
      rintro e w6 ⟨rfl, hk6⟩
      have hk6' : Keep (fun k => k < wo.heap.size) wo w6 := (HX5.out.keep _).trans (hk6.mono fun j hj _ e => by have := e.1; omega)
      have SD6 := hid (SD.out.kept hk6')
      have HX6 := hid (show Ext w w6 from Keep.ext (((HX.out.keep (fun k => k < w.heap.size)).trans (hk6'.mono fun k hk _ => Nat.lt_of_lt_of_le hk hzw)).mono fun k _ hl => hl))
      clear hk6 hk6'
      go_wp2_with fail
      refine (asked10_any w6 w.heap.size i g r x L T E U SD6.out (by omega) 0 0 0 0 ⟨#[]⟩ ⟨#[]⟩ ⟨#[]⟩ ⟨#[]⟩ (.slice none 0 0) (.slice none 0 0) (by decide) (by decide) none 0 0 none 0 0).mono ?_
      rintro e w7 ⟨rfl, hx7⟩
      have HX7 := hid (HX6.out.trans hx7)
      clear hx7
      go_wp2_with fail
      go_ret
      exact ⟨rfl, HX7.out⟩
theorem streamsPlays_walk (w : World) (sv : Value) (cs : List Cl) (hs : RdS rCl w (fun k => k < w.heap.size) sv cs) (hf : ∀ c ∈ cs, FitCl c) :
    Calls Try.prog 12 #[sv] w fun e w' => e = .returned (.bool true) ∧ Below w.heap.size w w' :=
  (streamsPlays_any w sv cs hs hf).mono fun e w' h => ⟨h.1, h.2.below⟩
end Go.Proofs.Ythobhkmphjnlaaa

/- How a []Call of chapter 10's statements is read, with what reach says of its sizes. -/
namespace Go.Proofs.Ythobhkmphjnlaaa
open Go.ChangeShapes Go.WideShapes Go.ChangeAt Go.RowKit Go.Deep
set_option linter.unusedVariables false
set_option linter.unusedSimpArgs false

def FitM (M : Nat) (l : List Ev) : Prop := l.length * 48 ≤ M ∧ ∀ e ∈ l, e.2.2.length * 48 ≤ M
theorem opensW10_I : OpensW rI (fun _ _ => True) 3 := opensW_I Try.underlying3 (by kernel_rfl)
theorem opensW10_B : OpensW rBo (fun _ _ => True) 4 := opensW_Bo Try.underlying4 (by kernel_rfl)
theorem opensW10_S : OpensW rS (fun _ _ => True) 9 := opensW_S Try.underlying9 (by kernel_rfl)
theorem opensW10_F : OpensW rF (fun _ _ => True) 108 :=
  (opensW_St Try.underlying108 (by kernel_rfl) (opensFsW_cons opensW10_S rfl rfl (opensFsW_cons opensW10_B rfl rfl (opensFsW_cons opensW10_I rfl rfl (opensFsW_one opensW10_S rfl rfl))))).mono fun _ _ _ => trivial
theorem opensW10_Fs : OpensW (rSl rF) (fun M xs => xs.length * 48 ≤ M) 44 := (opensW_L opensW10_F Try.underlying44 (by kernel_rfl) (by decide) 48 (by kernel_rfl)).mono fun _ _ h => h.1
theorem opensW10_E : OpensW rE (fun M x => x.2.2.length * 48 ≤ M) 46 :=
  (opensW_St Try.underlying46 (by kernel_rfl) (opensFsW_cons opensW10_S rfl rfl (opensFsW_cons opensW10_I rfl rfl (opensFsW_one opensW10_Fs rfl rfl)))).mono fun _ _ h => h.2.2
theorem opensW10_Es : OpensW (rSl rE) FitM 23 := opensW_L opensW10_E Try.underlying23 (by kernel_rfl) (by decide) 48 (by kernel_rfl)
theorem opensW10_Bt : OpensW rB (fun M x => FitM M x.2.2.2) 31 :=
  (opensW_St Try.underlying31 (by kernel_rfl) (opensFsW_cons opensW10_S rfl rfl (opensFsW_cons opensW10_S rfl rfl (opensFsW_cons opensW10_I rfl rfl (opensFsW_one opensW10_Es rfl rfl))))).mono fun _ _ h => h.2.2.2
theorem opensW10_Cl : OpensW rCl (fun M x => FitM M x.2.2.2.2.2.1 ∧ FitM M x.2.2.2.2.2.2.2.2.2) 39 :=
  (opensW_St Try.underlying39 (by kernel_rfl) (opensFsW_cons opensW10_I rfl rfl (opensFsW_cons opensW10_S rfl rfl (opensFsW_cons opensW10_S rfl rfl (opensFsW_cons opensW10_I rfl rfl (opensFsW_cons opensW10_I rfl rfl (opensFsW_cons opensW10_Es rfl rfl (opensFsW_one opensW10_Bt rfl rfl)))))))).mono fun _ _ h => h.2.2.2.2.2
theorem opensW10_Cls : OpensW (rSl rCl) (fun M xs => ∀ x ∈ xs, FitM M x.2.2.2.2.2.1 ∧ FitM M x.2.2.2.2.2.2.2.2.2) 22 := (opensW_L opensW10_Cl Try.underlying22 (by kernel_rfl) (by decide) _ rfl).mono fun _ _ h => h.2
set_option maxRecDepth 100000 in
theorem arg_ClsW {H : Type} {enc : TypeId × Value → H} {W : World} {base : Nat} {v : Value} {d : DataW H} {ps : List MemPlace} (hval : Value.okWide Try.prog W .any base 22 v) (hr : ∃ fuel, DataW.trod enc Try.prog W 0 (fun _ => true) true fuel 22 v.cells.toList = some (d, ps))
    (hw : (DataW.weights Try.prog 22 d).all (· ≤ reachBytes) = true) :
    ∃ xs, RdS rCl W (fun k => k < W.heap.size) v xs ∧ ∀ c ∈ xs, FitCl c := by
  obtain ⟨a0, len0, cap0, rfl⟩ := okWide_slice Try.underlying22 hval
  obtain ⟨fuel, hf⟩ := hr
  obtain ⟨xs, h1, h2⟩ := opensW10_Cls.op (cs := [.slice a0 len0 cap0]) hf
  exact ⟨xs, h1, fun c hc => h2 _ hw c hc⟩
end Go.Proofs.Ythobhkmphjnlaaa
