/- cartularylaw10.filled, walked. -/
import Derived.Test.YthobhkmphjnlaaaStrH
import Derived.Test.YthobhkmphjnlaaaStrI
import Derived.Test.YthobhkmphjnlaaaOpnT
import Derived.Deep.DeepCutAuto
import Derived.Test.YthobhkmphjnlaaaRegT
namespace Go.Proofs.Ythobhkmphjnlaaa
open Go.RowKit
set_option linter.unusedVariables false
set_option linter.unusedSimpArgs false

/-- what 'a, b, e := x.Try(..)' leaves: a's box, b's box, what e is -/
def TriedAt (wo : World) (z : Apd × (Bat × Nat)) (s5 s6 s7 : Value) (wx : World) : Prop :=
  ∃ gA gB ev, s5 = .pointer (some ⟨gA, 0, none⟩) ∧ s6 = .pointer (some ⟨gB, 0, none⟩) ∧ s7 = .int .i64 ((z.2.2 : Nat) : Int) ∧ wo.heap.size ≤ gB ∧ wo.heap.size ≤ gA ∧
    (wx.cell? ⟨gA, 0, none⟩ = some (.int .i64 z.1.1) ∧ wx.cell? ⟨gA, 1, none⟩ = some (.int .i64 z.1.2.1) ∧ wx.cell? ⟨gA, 2, none⟩ = some (.int .i64 z.1.2.2.1) ∧ wx.cell? ⟨gA, 3, none⟩ = some (.bool z.1.2.2.2)) ∧
    (wx.cell? ⟨gB, 0, none⟩ = some (.string z.2.1.1) ∧ wx.cell? ⟨gB, 1, none⟩ = some (.string z.2.1.2.1) ∧ wx.cell? ⟨gB, 2, none⟩ = some (.int .i64 z.2.1.2.2.1) ∧ wx.cell? ⟨gB, 3, none⟩ = some ev) ∧ RdS rE wx (fun k => wo.heap.size ≤ k) ev z.2.1.2.2.2 ∧ Ext wo wx

theorem keep3 {w W : World} {p q r : Addr} {a b c : Value} (h : Ext w W) (h1 : w.cell? p = some a) (h2 : w.cell? q = some b) (h3 : w.cell? r = some c) : W.cell? p = some a ∧ W.cell? q = some b ∧ W.cell? r = some c := ⟨h.cellS h1, h.cellS h2, h.cellS h3⟩
theorem store4 {a w : World} {g : Nat} {u0 u1 u2 u3 : Value} (h : Ext a w) (hg : a.heap.size ≤ g) : Ext a ((((w.setCell ⟨g, 0, none⟩ u0).setCell ⟨g, 1, none⟩ u1).setCell ⟨g, 2, none⟩ u2).setCell ⟨g, 3, none⟩ u3) :=
  (((h.setCell (p := ⟨g, 0, none⟩) hg _).setCell (p := ⟨g, 1, none⟩) hg _).setCell (p := ⟨g, 2, none⟩) hg _).setCell (p := ⟨g, 3, none⟩) hg _
theorem alloc_two_a (w : World) (c : Array Value) (t : TypeId) (o : Obj) : ((w.alloc (.cells c t)).alloc o).heap[w.heap.size]? = some (.cells c t (0, 0)) := (Below.block ((Ext.refl (w.alloc (.cells c t))).alloc o) w.heap.size (by simp)).trans (heap_alloc_new _ _)
theorem alloc_two_b (w : World) (c : Array Value) (t : TypeId) (o : Obj) : ((w.alloc o).alloc (.cells c t)).heap[w.heap.size + 1]? = some (.cells c t (0, 0)) := by
  have := heap_alloc_new (w.alloc o) (.cells c t)
  rwa [heap_alloc_sz] at this
theorem Ext.row4 {W w' : World} {g : Nat} {a b c d : Value} {t : TypeId} (hx : Ext W w') (h : W.heap[g]? = some (.cells #[a, b, c, d] t (0, 0))) :
    (w'.cell? ⟨g, 0, none⟩ = some a ∧ w'.cell? ⟨g, 1, none⟩ = some b ∧ w'.cell? ⟨g, 2, none⟩ = some c ∧ w'.cell? ⟨g, 3, none⟩ = some d) ∧ (w'.frozen? ⟨g, 0, none⟩ = false ∧ w'.frozen? ⟨g, 1, none⟩ = false ∧ w'.frozen? ⟨g, 2, none⟩ = false ∧ w'.frozen? ⟨g, 3, none⟩ = false) ∧ g < w'.heap.size ∧ ¬ g = w'.heap.size ∧ ¬ w'.heap.size = g := by
  have hr := (Below.block hx g (Array.getElem?_eq_some_iff.1 h).1).trans h
  have hl := (Array.getElem?_eq_some_iff.1 hr).1
  exact ⟨⟨(cell_of_row _ g 0 _ _ _ hr).trans rfl, (cell_of_row _ g 1 _ _ _ hr).trans rfl, (cell_of_row _ g 2 _ _ _ hr).trans rfl, (cell_of_row _ g 3 _ _ _ hr).trans rfl⟩, ⟨frozen_blk hr 0, frozen_blk hr 1, frozen_blk hr 2, frozen_blk hr 3⟩, hl, by omega, by omega⟩

set_option maxRecDepth 100000 in
set_option maxHeartbeats 4000000 in
theorem filled_any (w : World) (sv : Value) (cs : List Cl) (hs : RdS rCl w (fun k => k < w.heap.size) sv cs) :
    Calls Try.prog 15 #[sv] w fun e w' => ∃ g x, e = .returned (.pointer (some ⟨g, 0, none⟩)) ∧ Idx (fun k => w.heap.size ≤ k ∧ k < w'.heap.size) w' g x ∧ Reach x ∧ x.all.length ≤ 640 ∧ Ext w w' := by
  obtain ⟨sa, sc, rfl, hsc1, hsc2⟩ := hs.slice
  have HS := hid hs
  clear hs
  go_enter Try.func15, Try.ntmps15
  go_wp2_with fail
  refine (New_idx w).mono ?_
  rintro e w1 ⟨g, rfl, hI, hx1⟩
  have HI := hid hI
  have HX1 := hid hx1
  clear hI hx1
  go_wp2_with fail
  go_loopw [4] (fun u4 wr => ∃ i : Nat, ∃ x : Ix, u4 = .int .i64 i ∧ i ≤ 40 ∧ i ≤ cs.length ∧ Idx (fun k => w.heap.size ≤ k ∧ k < wr.heap.size) wr g x ∧ Reach x ∧ x.all.length ≤ 16 * i ∧ Ext w wr) (fun u4 _ => 40 - (intOf u4).toNat)
  case atStart => exact ⟨0, ix0, rfl, by omega, by omega, HI.out, .zero, by simp [ix0], HX1.out⟩
  case round =>
    clear HI HX1
    obtain ⟨wo, rfl⟩ : ∃ wo : World, wo = wr := ⟨_, rfl⟩
    obtain ⟨i, x, rfl, hi40, hil, hidx, hre, hall, hx⟩ := hrel
    have HI := hid hidx
    have HRE := hid hre
    have HX := hid hx
    clear hidx hre
    by_cases hgo : i < cs.length ∧ i < 40
    · obtain ⟨hlt, hlt40⟩ := hgo
      obtain ⟨gl, ol, cap, lv, bev, e, hgl, -, d0, d1, d2, d3, d4, d5, -, -, -, -, -, hs1, hs2, -, -, hL, -⟩ := (HS.out.ext hx).atCl i hlt
      simp only [Value.slice.injEq] at e
      obtain ⟨rfl, -, rfl⟩ := e
      obtain ⟨la, lc, rfl, -, -⟩ := hL.slice
      generalize cs[i] = c at d0 d1 d2 d3 d4 d5 hs1 hs2 hL
      obtain ⟨ck, cst, cky, cn, cm, cl, cb⟩ := c
      dsimp only at d0 d1 d2 d3 d4 d5 hs1 hs2 hL
      have HL := hid hL
      have hlen : cl.length ≤ 9223372036854775807 := by obtain ⟨_, _, e, h1, h2⟩ := hL.slice; omega
      have hstr := HRE.out.str cst
      clear hL hx d0 d3 d4
      obtain ⟨z, hz⟩ : ∃ z, tryF x cst (-1) cky cl = z := ⟨_, rfl⟩
      have HZ := hid hz
      clear hz
      obtain ⟨⟨zf, zp, zc, zg⟩, ⟨bs, bk, bf, bes⟩, er⟩ := z
      go_upto_region 7 with fail
      go_cut [5, 6, 7] (fun s5 s6 s7 wx => TriedAt wo ((zf, zp, zc, zg), (bs, bk, bf, bes), er) s5 s6 s7 wx)
      case first =>
        go_wp2_with fail
        have hxd : Ext wo wo.drew := by (· repeat (first | (with_reducible assumption) | exact Ext.refl _ | refine Ext.alloc ?_ _ | refine Ext.drew ?_ | refine Ext.drewN ?_ _ | (apply Ext.snart; (with_reducible assumption))))
        refine wp_region_T (fun w' => w'.cell? ⟨gl, ol + i * 10 + 1, none⟩ = some (.string cst) ∧ w'.cell? ⟨gl, ol + i * 10 + 2, none⟩ = some (.string cky) ∧ w'.cell? ⟨gl, ol + i * 10 + 5, none⟩ = some (.slice la cl.length lc)) [16, 17, 18, 19, 20, 23, 24, 25] (by kernel_rfl) (keep3 hxd d1 d2 d5) (fun hS => ?_)
        (refine wpAnyT_take (i := 0) (v := ?_) rfl (by kernel_rfl) (by kernel_rfl) (by kernel_rfl) (by kernel_rfl) (fun _ _ _ h => h) (Or.inl ⟨by rfl, ?_⟩) (by assumption) ?_; rotate_left; ((intro wS hSw; (try dsimp only at hSw); (try simp only [List.getElem_toArray, List.getElem_cons_zero, List.getElem_cons_succ]); go_simp); (try with_reducible rfl)); (try simp only [Act.put, List.getElem_toArray, List.getElem_cons_zero, List.getElem_cons_succ, List.setIfInBounds_toArray, List.set_cons_zero, List.set_cons_succ]))
        (refine wpAnyT_take (i := 1) (v := ?_) rfl (by kernel_rfl) (by kernel_rfl) (by kernel_rfl) (by kernel_rfl) (fun _ _ _ h => h) (Or.inl ⟨by rfl, ?_⟩) (by assumption) ?_; rotate_left; ((intro wS hSw; (try dsimp only at hSw); (try simp only [List.getElem_toArray, List.getElem_cons_zero, List.getElem_cons_succ]); go_simp); (try with_reducible rfl)); (try simp only [Act.put, List.getElem_toArray, List.getElem_cons_zero, List.getElem_cons_succ, List.setIfInBounds_toArray, List.set_cons_zero, List.set_cons_succ]))
        (refine wpAnyT_take (i := 2) (v := ?_) rfl (by kernel_rfl) (by kernel_rfl) (by kernel_rfl) (by kernel_rfl) (fun _ _ _ h => h) (Or.inl ⟨by rfl, ?_⟩) (by assumption) ?_; rotate_left; ((intro wS hSw; (try dsimp only at hSw); (try simp only [List.getElem_toArray, List.getElem_cons_zero, List.getElem_cons_succ]); go_simp); (try with_reducible rfl)); (try simp only [Act.put, List.getElem_toArray, List.getElem_cons_zero, List.getElem_cons_succ, List.setIfInBounds_toArray, List.set_cons_zero, List.set_cons_succ]))
        (refine wpAnyT_take (i := 3) (v := ?_) rfl (by kernel_rfl) (by kernel_rfl) (by kernel_rfl) (by kernel_rfl) (fun _ _ _ h => h) (Or.inl ⟨by rfl, ?_⟩) (by assumption) ?_; rotate_left; ((intro wS hSw; (try dsimp only at hSw); (try simp only [List.getElem_toArray, List.getElem_cons_zero, List.getElem_cons_succ]); go_simp); (try with_reducible rfl)); (try simp only [Act.put, List.getElem_toArray, List.getElem_cons_zero, List.getElem_cons_succ, List.setIfInBounds_toArray, List.set_cons_zero, List.set_cons_succ]))
        (refine wpAnyT_take (i := 4) (v := ?_) rfl (by kernel_rfl) (by kernel_rfl) (by kernel_rfl) (by kernel_rfl) (fun _ _ _ h => h) (Or.inl ⟨by rfl, ?_⟩) (by assumption) ?_; rotate_left; ((intro wS hSw; (try dsimp only at hSw); (try simp only [List.getElem_toArray, List.getElem_cons_zero, List.getElem_cons_succ]); go_simp); (try with_reducible rfl)); (try simp only [Act.put, List.getElem_toArray, List.getElem_cons_zero, List.getElem_cons_succ, List.setIfInBounds_toArray, List.set_cons_zero, List.set_cons_succ]))
        (refine wpAnyT_take (i := 5) (v := ?_) rfl (by kernel_rfl) (by kernel_rfl) (by kernel_rfl) (by kernel_rfl) (fun _ _ _ h => h) (Or.inl ⟨by rfl, ?_⟩) (by assumption) ?_; rotate_left; ((intro wS hSw; (try dsimp only at hSw); (try simp only [List.getElem_toArray, List.getElem_cons_zero, List.getElem_cons_succ]); go_simp); (try with_reducible rfl)); (try simp only [Act.put, List.getElem_toArray, List.getElem_cons_zero, List.getElem_cons_succ, List.setIfInBounds_toArray, List.set_cons_zero, List.set_cons_succ]))
        (refine wpAnyT_take (i := 6) (v := ?_) rfl (by kernel_rfl) (by kernel_rfl) (by kernel_rfl) (by kernel_rfl) (fun _ _ _ h => h) (Or.inl ⟨by rfl, ?_⟩) (by assumption) ?_; rotate_left; ((intro wS hSw; (try dsimp only at hSw); (try simp only [List.getElem_toArray, List.getElem_cons_zero, List.getElem_cons_succ]); go_simp); (try with_reducible rfl)); (try simp only [Act.put, List.getElem_toArray, List.getElem_cons_zero, List.getElem_cons_succ, List.setIfInBounds_toArray, List.set_cons_zero, List.set_cons_succ]))
        (refine wpAnyT_take (i := 7) (v := ?_) rfl (by kernel_rfl) (by kernel_rfl) (by kernel_rfl) (by kernel_rfl) (fun _ _ _ h => h) (Or.inl ⟨by rfl, ?_⟩) (by assumption) ?_; rotate_left; ((intro wS hSw; (try dsimp only at hSw); (try simp only [List.getElem_toArray, List.getElem_cons_zero, List.getElem_cons_succ]); go_simp); (try with_reducible rfl)); (try simp only [Act.put, List.getElem_toArray, List.getElem_cons_zero, List.getElem_cons_succ, List.setIfInBounds_toArray, List.set_cons_zero, List.set_cons_succ]))
        (refine wpAnyT_take (i := 8) (v := ?_) rfl (by kernel_rfl) (by kernel_rfl) (by kernel_rfl) (by kernel_rfl) (fun _ _ _ h => h) (Or.inl ⟨by rfl, ?_⟩) (by assumption) ?_; rotate_left; ((intro wS hSw; (try dsimp only at hSw); (try simp only [List.getElem_toArray, List.getElem_cons_zero, List.getElem_cons_succ]); go_simp); (try with_reducible rfl)); (try simp only [Act.put, List.getElem_toArray, List.getElem_cons_zero, List.getElem_cons_succ, List.setIfInBounds_toArray, List.set_cons_zero, List.set_cons_succ]))
        (refine wpAnyT_take (i := 9) (v := ?_) rfl (by kernel_rfl) (by kernel_rfl) (by kernel_rfl) (by kernel_rfl) (fun _ _ _ h => h) (Or.inl ⟨by rfl, ?_⟩) (by assumption) ?_; rotate_left; ((intro wS hSw; (try dsimp only at hSw); (try simp only [List.getElem_toArray, List.getElem_cons_zero, List.getElem_cons_succ]); go_simp); (try with_reducible rfl)); (try simp only [Act.put, List.getElem_toArray, List.getElem_cons_zero, List.getElem_cons_succ, List.setIfInBounds_toArray, List.set_cons_zero, List.set_cons_succ]))
        (refine wpAnyT_take (i := 10) (v := ?_) rfl (by kernel_rfl) (by kernel_rfl) (by kernel_rfl) (by kernel_rfl) (fun _ _ _ h => h) (Or.inl ⟨by rfl, ?_⟩) (by assumption) ?_; rotate_left; ((intro wS hSw; (try dsimp only at hSw); (try simp only [List.getElem_toArray, List.getElem_cons_zero, List.getElem_cons_succ]); go_simp); (try with_reducible rfl)); (try simp only [Act.put, List.getElem_toArray, List.getElem_cons_zero, List.getElem_cons_succ, List.setIfInBounds_toArray, List.set_cons_zero, List.set_cons_succ]))
        (refine wpAnyT_take (i := 11) (v := ?_) rfl (by kernel_rfl) (by kernel_rfl) (by kernel_rfl) (by kernel_rfl) (fun _ _ _ h => h) (Or.inl ⟨by rfl, ?_⟩) (by assumption) ?_; rotate_left; ((intro wS hSw; (try dsimp only at hSw); (try simp only [List.getElem_toArray, List.getElem_cons_zero, List.getElem_cons_succ]); go_simp); (try with_reducible rfl)); (try simp only [Act.put, List.getElem_toArray, List.getElem_cons_zero, List.getElem_cons_succ, List.setIfInBounds_toArray, List.set_cons_zero, List.set_cons_succ]))
        (refine wpAnyT_take (i := 12) (v := ?_) rfl (by kernel_rfl) (by kernel_rfl) (by kernel_rfl) (by kernel_rfl) (fun _ _ _ h => h) (Or.inl ⟨by rfl, ?_⟩) (by assumption) ?_; rotate_left; ((intro wS hSw; (try dsimp only at hSw); (try simp only [List.getElem_toArray, List.getElem_cons_zero, List.getElem_cons_succ]); go_simp); (try with_reducible rfl)); (try simp only [Act.put, List.getElem_toArray, List.getElem_cons_zero, List.getElem_cons_succ, List.setIfInBounds_toArray, List.set_cons_zero, List.set_cons_succ]))
        (refine wpAnyT_take (i := 13) (v := ?_) rfl (by kernel_rfl) (by kernel_rfl) (by kernel_rfl) (by kernel_rfl) (fun _ _ _ h => h) (Or.inl ⟨by rfl, ?_⟩) (by assumption) ?_; rotate_left; ((intro wS hSw; (try dsimp only at hSw); (try simp only [List.getElem_toArray, List.getElem_cons_zero, List.getElem_cons_succ]); go_simp); (try with_reducible rfl)); (try simp only [Act.put, List.getElem_toArray, List.getElem_cons_zero, List.getElem_cons_succ, List.setIfInBounds_toArray, List.set_cons_zero, List.set_cons_succ]))
        (refine wpAnyT_take (i := 14) (v := ?_) rfl (by kernel_rfl) (by kernel_rfl) (by kernel_rfl) (by kernel_rfl) (fun _ _ _ h => h) (Or.inl ⟨by rfl, ?_⟩) (by assumption) ?_; rotate_left; ((intro wS hSw; (try dsimp only at hSw); (try simp only [List.getElem_toArray, List.getElem_cons_zero, List.getElem_cons_succ]); go_simp); (try with_reducible rfl)); (try simp only [Act.put, List.getElem_toArray, List.getElem_cons_zero, List.getElem_cons_succ, List.setIfInBounds_toArray, List.set_cons_zero, List.set_cons_succ]))
        (refine wpAnyT_take (i := 15) (v := ?_) rfl (by kernel_rfl) (by kernel_rfl) (by kernel_rfl) (by kernel_rfl) (fun _ _ _ h => h) (Or.inl ⟨by rfl, ?_⟩) (by assumption) ?_; rotate_left; ((intro wS hSw; (try dsimp only at hSw); (try simp only [List.getElem_toArray, List.getElem_cons_zero, List.getElem_cons_succ]); go_simp); (try with_reducible rfl)); (try simp only [Act.put, List.getElem_toArray, List.getElem_cons_zero, List.getElem_cons_succ, List.setIfInBounds_toArray, List.set_cons_zero, List.set_cons_succ]))
        refine wpAnyT_all (rs := [16, 21, 22]) (by kernel_rfl) (by decide) (AllT.consF rfl rfl (fun K hK => ?_) (AllT.consS rfl (fun K hK => ?_) (AllT.consS rfl (fun K hK => ?_) AllT.nil)))
        · go_simp
          go_at_call 17
          refine (Try_idx _ _ g x (HI.out.ext (by (· repeat (first | (with_reducible assumption) | exact Ext.refl _ | refine Ext.alloc ?_ _ | refine Ext.drew ?_ | refine Ext.drewN ?_ _ | (apply Ext.snart; (with_reducible assumption)))))) (by omega) _ hs1 (-1) (by decide) _ hs2 _ _ _ (HL.out.ext (by (· repeat (first | (with_reducible assumption) | exact Ext.refl _ | refine Ext.alloc ?_ _ | refine Ext.drew ?_ | refine Ext.drewN ?_ _ | (apply Ext.snart; (with_reducible assumption)))))) hlen (by omega)).mono ?_
          rintro e w' ⟨ev', rfl, hev', hx'⟩
          rw [HZ.out] at hev' ⊢
          dsimp only at hev' ⊢
          obtain ⟨ea', ec', rfl, -, -⟩ := hev'.slice
          have hx0' : Ext wo w' := (show Ext wo _ by (· repeat (first | (with_reducible assumption) | exact Ext.refl _ | refine Ext.alloc ?_ _ | refine Ext.drew ?_ | refine Ext.drewN ?_ _ | (apply Ext.snart; (with_reducible assumption))))).trans hx'
          have hsx' : wo.heap.size + 0 ≤ w'.heap.size := by have h : (wo).heap.size ≤ w'.heap.size := hx'.size; (try simp only [heap_alloc_sz] at h); omega
          have hev' := hev'.upto.mono (S' := fun k => wo.heap.size + 0 ≤ k ∧ k < w'.heap.size) (fun k hk _ => ⟨by have h : (wo).heap.size ≤ k := hk.1; (try simp only [heap_alloc_sz] at h); omega, hk.2⟩)
          (refine hK.out _ _ ?_; clear hK K)
          (refine wpAnyT_any (i := 17) (v := ?_) rfl (by kernel_rfl) (by kernel_rfl) (by kernel_rfl) (by kernel_rfl) (fun _ _ _ h => h) (Or.inl ⟨by rfl, ?_⟩) ?_; rotate_left; ((intro wS hSw; (try simp only [List.getElem_toArray, List.getElem_cons_zero, List.getElem_cons_succ]); go_simp); (try with_reducible rfl)); (try simp only [Act.put, List.getElem_toArray, List.getElem_cons_zero, List.getElem_cons_succ, List.setIfInBounds_toArray, List.set_cons_zero, List.set_cons_succ]))
          (refine wpAnyT_any (i := 18) (v := ?_) rfl (by kernel_rfl) (by kernel_rfl) (by kernel_rfl) (by kernel_rfl) (fun _ _ _ h => h) (Or.inl ⟨by rfl, ?_⟩) ?_; rotate_left; ((intro wS hSw; (try simp only [List.getElem_toArray, List.getElem_cons_zero, List.getElem_cons_succ]); go_simp); (try with_reducible rfl)); (try simp only [Act.put, List.getElem_toArray, List.getElem_cons_zero, List.getElem_cons_succ, List.setIfInBounds_toArray, List.set_cons_zero, List.set_cons_succ]))
          (refine wpAnyT_any (i := 19) (v := ?_) rfl (by kernel_rfl) (by kernel_rfl) (by kernel_rfl) (by kernel_rfl) (fun _ _ _ h => h) (Or.inl ⟨by rfl, ?_⟩) ?_; rotate_left; ((intro wS hSw; (try simp only [List.getElem_toArray, List.getElem_cons_zero, List.getElem_cons_succ]); go_simp); (try with_reducible rfl)); (try simp only [Act.put, List.getElem_toArray, List.getElem_cons_zero, List.getElem_cons_succ, List.setIfInBounds_toArray, List.set_cons_zero, List.set_cons_succ]))
          (refine wpAnyT_any (i := 20) (v := ?_) rfl (by kernel_rfl) (by kernel_rfl) (by kernel_rfl) (by kernel_rfl) (fun _ _ _ h => h) (Or.inl ⟨by rfl, ?_⟩) ?_; rotate_left; ((intro wS hSw; (try simp only [List.getElem_toArray, List.getElem_cons_zero, List.getElem_cons_succ]); go_simp); (try with_reducible rfl)); (try simp only [Act.put, List.getElem_toArray, List.getElem_cons_zero, List.getElem_cons_succ, List.setIfInBounds_toArray, List.set_cons_zero, List.set_cons_succ]))
          refine wpAnyT_all (rs := [21, 22]) (by kernel_rfl) (by decide) (AllT.consS rfl (fun K hK => ?_) (AllT.consS rfl (fun K hK => ?_) AllT.nil))
          · go_simp
            (refine hK.out _ _ (keep3 (show Ext wo _ by (· repeat (first | (with_reducible assumption) | exact Ext.refl _ | refine Ext.alloc ?_ _ | refine Ext.drew ?_ | refine Ext.drewN ?_ _ | (apply Ext.snart; (with_reducible assumption))))) d1 d2 d5) (fun hS => ?_); clear hK K)
            refine wpAnyT_all (rs := [22]) (by kernel_rfl) (by decide) (AllT.consS rfl (fun K hK => ?_) AllT.nil)
            go_simp
            (refine hK.out _ _ (keep3 (show Ext wo _ by (· repeat (first | (with_reducible assumption) | exact Ext.refl _ | refine Ext.alloc ?_ _ | refine Ext.drew ?_ | refine Ext.drewN ?_ _ | (apply Ext.snart; (with_reducible assumption))))) d1 d2 d5) (fun hS => ?_); clear hK K)
            have hA : ((w'.alloc (.cells #[.int .i64 0, .int .i64 0, .int .i64 0, .bool false] 29)).alloc (.cells #[.string ⟨#[]⟩, .string ⟨#[]⟩, .int .i64 0, .slice none 0 0] 31)).heap[w'.heap.size]? = some (.cells #[.int .i64 0, .int .i64 0, .int .i64 0, .bool false] 29 (0, 0)) := alloc_two_a _ _ _ _
            have hB : ((w'.alloc (.cells #[.int .i64 0, .int .i64 0, .int .i64 0, .bool false] 29)).alloc (.cells #[.string ⟨#[]⟩, .string ⟨#[]⟩, .int .i64 0, .slice none 0 0] 31)).heap[(w'.heap.size + 1)]? = some (.cells #[.string ⟨#[]⟩, .string ⟨#[]⟩, .int .i64 0, .slice none 0 0] 31 (0, 0)) := alloc_two_b _ _ _ _
            have hxW : Ext wo ((w'.alloc (.cells #[.int .i64 0, .int .i64 0, .int .i64 0, .bool false] 29)).alloc (.cells #[.string ⟨#[]⟩, .string ⟨#[]⟩, .int .i64 0, .slice none 0 0] 31)) := by (· repeat (first | (with_reducible assumption) | exact Ext.refl _ | refine Ext.alloc ?_ _ | refine Ext.drew ?_ | refine Ext.drewN ?_ _ | (apply Ext.snart; (with_reducible assumption))))
            have hevW : RdS rE ((w'.alloc (.cells #[.int .i64 0, .int .i64 0, .int .i64 0, .bool false] 29)).alloc (.cells #[.string ⟨#[]⟩, .string ⟨#[]⟩, .int .i64 0, .slice none 0 0] 31)) (fun k => wo.heap.size ≤ k ∧ k ≠ w'.heap.size ∧ k ≠ (w'.heap.size + 1)) (.slice ea' bes.length ec') bes := (hev'.ext (show Ext w' _ by (· repeat (first | (with_reducible assumption) | exact Ext.refl _ | refine Ext.alloc ?_ _ | refine Ext.drew ?_ | refine Ext.drewN ?_ _ | (apply Ext.snart; (with_reducible assumption)))))).mono (fun k hk _ => by have h1 := hk.1; have h2 := hk.2; refine ⟨?_, ?_, ?_⟩ <;> omega)
            have hAB : ¬ w'.heap.size = (w'.heap.size + 1) := by omega
            have hgA : wo.heap.size ≤ w'.heap.size := by omega
            have hgB : wo.heap.size ≤ (w'.heap.size + 1) := by omega
            obtain ⟨W0, hW0⟩ : ∃ W0, W0 = (w'.alloc (.cells #[.int .i64 0, .int .i64 0, .int .i64 0, .bool false] 29)).alloc (.cells #[.string ⟨#[]⟩, .string ⟨#[]⟩, .int .i64 0, .slice none 0 0] 31) := ⟨_, rfl⟩
            rw [← hW0] at hA hB hxW hevW ⊢
            clear hW0
            have HA := hid hA
            have HB := hid hB
            have HEVW := hid hevW
            have HXW := hid hxW
            have yA0 : W0.cell? ⟨w'.heap.size, 0, none⟩ = some (.int .i64 0) := (cell_of_row _ _ 0 _ _ _ HA.out).trans rfl
            have xA0 := frozen_blk HA.out 0
            have yA1 : W0.cell? ⟨w'.heap.size, 1, none⟩ = some (.int .i64 0) := (cell_of_row _ _ 1 _ _ _ HA.out).trans rfl
            have xA1 := frozen_blk HA.out 1
            have yA2 : W0.cell? ⟨w'.heap.size, 2, none⟩ = some (.int .i64 0) := (cell_of_row _ _ 2 _ _ _ HA.out).trans rfl
            have xA2 := frozen_blk HA.out 2
            have yA3 : W0.cell? ⟨w'.heap.size, 3, none⟩ = some (.bool false) := (cell_of_row _ _ 3 _ _ _ HA.out).trans rfl
            have xA3 := frozen_blk HA.out 3
            have yB0 : W0.cell? ⟨(w'.heap.size + 1), 0, none⟩ = some (.string ⟨#[]⟩) := (cell_of_row _ _ 0 _ _ _ HB.out).trans rfl
            have xB0 := frozen_blk HB.out 0
            have yB1 : W0.cell? ⟨(w'.heap.size + 1), 1, none⟩ = some (.string ⟨#[]⟩) := (cell_of_row _ _ 1 _ _ _ HB.out).trans rfl
            have xB1 := frozen_blk HB.out 1
            have yB2 : W0.cell? ⟨(w'.heap.size + 1), 2, none⟩ = some (.int .i64 0) := (cell_of_row _ _ 2 _ _ _ HB.out).trans rfl
            have xB2 := frozen_blk HB.out 2
            have yB3 : W0.cell? ⟨(w'.heap.size + 1), 3, none⟩ = some (.slice none 0 0) := (cell_of_row _ _ 3 _ _ _ HB.out).trans rfl
            have xB3 := frozen_blk HB.out 3
            have hBA : ¬ (w'.heap.size + 1) = w'.heap.size := by omega
            clear hA hB hxW hevW hev' hx' hsx' hx0' d1 d2 d5
            refine wpAnyT_all (rs := [23]) (by kernel_rfl) (by decide) (AllT.consF rfl rfl (fun K hK => ?_) AllT.nil)
            go_simp
            (refine hK.out _ _ ?_; clear hK K)
            refine wpAnyT_all (rs := [24]) (by kernel_rfl) (by decide) (AllT.consF rfl rfl (fun K hK => ?_) AllT.nil)
            go_simp
            (refine hK.out _ _ ?_; clear hK K)
            refine wpAnyT_all (rs := [25]) (by kernel_rfl) (by decide) (AllT.consF rfl rfl (fun K hK => ?_) AllT.nil)
            go_simp
            (refine hK.out _ _ ?_; clear hK K)
            refine wpAnyT_done (by kernel_rfl) (NoPanic.normal ?_) _
            go_wp2_with fail
            go_meet
            obtain ⟨qA, qB⟩ := eight_cells (u0 := .int .i64 zf) (u1 := .int .i64 zp) (u2 := .int .i64 zc) (u3 := .bool zg) (v0 := .string bs) (v1 := .string bk) (v2 := .int .i64 bf) (v3 := .slice ea' bes.length ec') HA.out HB.out hAB
            exact ⟨_, _, _, rfl, rfl, rfl, hgB, hgA, ⟨(cell_of_row _ _ 0 _ _ _ qA).trans rfl, (cell_of_row _ _ 1 _ _ _ qA).trans rfl, (cell_of_row _ _ 2 _ _ _ qA).trans rfl, (cell_of_row _ _ 3 _ _ _ qA).trans rfl⟩, ⟨(cell_of_row _ _ 0 _ _ _ qB).trans rfl, (cell_of_row _ _ 1 _ _ _ qB).trans rfl, (cell_of_row _ _ 2 _ _ _ qB).trans rfl, (cell_of_row _ _ 3 _ _ _ qB).trans rfl⟩, (HEVW.out.kept (eight_keep (fun h => h.2.1 rfl) (fun h => h.2.2 rfl))).mono (fun k hk _ => hk.1), eight_ext HXW.out hgA hgB⟩
          · go_simp
            (refine hK.out _ _ (keep3 (show Ext wo _ by (· repeat (first | (with_reducible assumption) | exact Ext.refl _ | refine Ext.alloc ?_ _ | refine Ext.drew ?_ | refine Ext.drewN ?_ _ | (apply Ext.snart; (with_reducible assumption))))) d1 d2 d5) (fun hS => ?_); clear hK K)
            refine wpAnyT_all (rs := [21]) (by kernel_rfl) (by decide) (AllT.consS rfl (fun K hK => ?_) AllT.nil)
            go_simp
            (refine hK.out _ _ (keep3 (show Ext wo _ by (· repeat (first | (with_reducible assumption) | exact Ext.refl _ | refine Ext.alloc ?_ _ | refine Ext.drew ?_ | refine Ext.drewN ?_ _ | (apply Ext.snart; (with_reducible assumption))))) d1 d2 d5) (fun hS => ?_); clear hK K)
            have hA : ((w'.alloc (.cells #[.string ⟨#[]⟩, .string ⟨#[]⟩, .int .i64 0, .slice none 0 0] 31)).alloc (.cells #[.int .i64 0, .int .i64 0, .int .i64 0, .bool false] 29)).heap[(w'.heap.size + 1)]? = some (.cells #[.int .i64 0, .int .i64 0, .int .i64 0, .bool false] 29 (0, 0)) := alloc_two_b _ _ _ _
            have hB : ((w'.alloc (.cells #[.string ⟨#[]⟩, .string ⟨#[]⟩, .int .i64 0, .slice none 0 0] 31)).alloc (.cells #[.int .i64 0, .int .i64 0, .int .i64 0, .bool false] 29)).heap[w'.heap.size]? = some (.cells #[.string ⟨#[]⟩, .string ⟨#[]⟩, .int .i64 0, .slice none 0 0] 31 (0, 0)) := alloc_two_a _ _ _ _
            have hxW : Ext wo ((w'.alloc (.cells #[.string ⟨#[]⟩, .string ⟨#[]⟩, .int .i64 0, .slice none 0 0] 31)).alloc (.cells #[.int .i64 0, .int .i64 0, .int .i64 0, .bool false] 29)) := by (· repeat (first | (with_reducible assumption) | exact Ext.refl _ | refine Ext.alloc ?_ _ | refine Ext.drew ?_ | refine Ext.drewN ?_ _ | (apply Ext.snart; (with_reducible assumption))))
            have hevW : RdS rE ((w'.alloc (.cells #[.string ⟨#[]⟩, .string ⟨#[]⟩, .int .i64 0, .slice none 0 0] 31)).alloc (.cells #[.int .i64 0, .int .i64 0, .int .i64 0, .bool false] 29)) (fun k => wo.heap.size ≤ k ∧ k ≠ (w'.heap.size + 1) ∧ k ≠ w'.heap.size) (.slice ea' bes.length ec') bes := (hev'.ext (show Ext w' _ by (· repeat (first | (with_reducible assumption) | exact Ext.refl _ | refine Ext.alloc ?_ _ | refine Ext.drew ?_ | refine Ext.drewN ?_ _ | (apply Ext.snart; (with_reducible assumption)))))).mono (fun k hk _ => by have h1 := hk.1; have h2 := hk.2; refine ⟨?_, ?_, ?_⟩ <;> omega)
            have hAB : ¬ (w'.heap.size + 1) = w'.heap.size := by omega
            have hgA : wo.heap.size ≤ (w'.heap.size + 1) := by omega
            have hgB : wo.heap.size ≤ w'.heap.size := by omega
            obtain ⟨W0, hW0⟩ : ∃ W0, W0 = (w'.alloc (.cells #[.string ⟨#[]⟩, .string ⟨#[]⟩, .int .i64 0, .slice none 0 0] 31)).alloc (.cells #[.int .i64 0, .int .i64 0, .int .i64 0, .bool false] 29) := ⟨_, rfl⟩
            rw [← hW0] at hA hB hxW hevW ⊢
            clear hW0
            have HA := hid hA
            have HB := hid hB
            have HEVW := hid hevW
            have HXW := hid hxW
            have yA0 : W0.cell? ⟨(w'.heap.size + 1), 0, none⟩ = some (.int .i64 0) := (cell_of_row _ _ 0 _ _ _ HA.out).trans rfl
            have xA0 := frozen_blk HA.out 0
            have yA1 : W0.cell? ⟨(w'.heap.size + 1), 1, none⟩ = some (.int .i64 0) := (cell_of_row _ _ 1 _ _ _ HA.out).trans rfl
            have xA1 := frozen_blk HA.out 1
            have yA2 : W0.cell? ⟨(w'.heap.size + 1), 2, none⟩ = some (.int .i64 0) := (cell_of_row _ _ 2 _ _ _ HA.out).trans rfl
            have xA2 := frozen_blk HA.out 2
            have yA3 : W0.cell? ⟨(w'.heap.size + 1), 3, none⟩ = some (.bool false) := (cell_of_row _ _ 3 _ _ _ HA.out).trans rfl
            have xA3 := frozen_blk HA.out 3
            have yB0 : W0.cell? ⟨w'.heap.size, 0, none⟩ = some (.string ⟨#[]⟩) := (cell_of_row _ _ 0 _ _ _ HB.out).trans rfl
            have xB0 := frozen_blk HB.out 0
            have yB1 : W0.cell? ⟨w'.heap.size, 1, none⟩ = some (.string ⟨#[]⟩) := (cell_of_row _ _ 1 _ _ _ HB.out).trans rfl
            have xB1 := frozen_blk HB.out 1
            have yB2 : W0.cell? ⟨w'.heap.size, 2, none⟩ = some (.int .i64 0) := (cell_of_row _ _ 2 _ _ _ HB.out).trans rfl
            have xB2 := frozen_blk HB.out 2
            have yB3 : W0.cell? ⟨w'.heap.size, 3, none⟩ = some (.slice none 0 0) := (cell_of_row _ _ 3 _ _ _ HB.out).trans rfl
            have xB3 := frozen_blk HB.out 3
            have hBA : ¬ w'.heap.size = (w'.heap.size + 1) := by omega
            clear hA hB hxW hevW hev' hx' hsx' hx0' d1 d2 d5
            refine wpAnyT_all (rs := [23]) (by kernel_rfl) (by decide) (AllT.consF rfl rfl (fun K hK => ?_) AllT.nil)
            go_simp
            (refine hK.out _ _ ?_; clear hK K)
            refine wpAnyT_all (rs := [24]) (by kernel_rfl) (by decide) (AllT.consF rfl rfl (fun K hK => ?_) AllT.nil)
            go_simp
            (refine hK.out _ _ ?_; clear hK K)
            refine wpAnyT_all (rs := [25]) (by kernel_rfl) (by decide) (AllT.consF rfl rfl (fun K hK => ?_) AllT.nil)
            go_simp
            (refine hK.out _ _ ?_; clear hK K)
            refine wpAnyT_done (by kernel_rfl) (NoPanic.normal ?_) _
            go_wp2_with fail
            go_meet
            obtain ⟨qA, qB⟩ := eight_cells (u0 := .int .i64 zf) (u1 := .int .i64 zp) (u2 := .int .i64 zc) (u3 := .bool zg) (v0 := .string bs) (v1 := .string bk) (v2 := .int .i64 bf) (v3 := .slice ea' bes.length ec') HA.out HB.out hAB
            exact ⟨_, _, _, rfl, rfl, rfl, hgB, hgA, ⟨(cell_of_row _ _ 0 _ _ _ qA).trans rfl, (cell_of_row _ _ 1 _ _ _ qA).trans rfl, (cell_of_row _ _ 2 _ _ _ qA).trans rfl, (cell_of_row _ _ 3 _ _ _ qA).trans rfl⟩, ⟨(cell_of_row _ _ 0 _ _ _ qB).trans rfl, (cell_of_row _ _ 1 _ _ _ qB).trans rfl, (cell_of_row _ _ 2 _ _ _ qB).trans rfl, (cell_of_row _ _ 3 _ _ _ qB).trans rfl⟩, (HEVW.out.kept (eight_keep (fun h => h.2.1 rfl) (fun h => h.2.2 rfl))).mono (fun k hk _ => hk.1), eight_ext HXW.out hgA hgB⟩
        · go_simp
          (refine hK.out _ _ (keep3 (show Ext wo _ by (· repeat (first | (with_reducible assumption) | exact Ext.refl _ | refine Ext.alloc ?_ _ | refine Ext.drew ?_ | refine Ext.drewN ?_ _ | (apply Ext.snart; (with_reducible assumption))))) d1 d2 d5) (fun hS => ?_); clear hK K)
          refine wpAnyT_all (rs := [16, 22]) (by kernel_rfl) (by decide) (AllT.consF rfl rfl (fun K hK => ?_) (AllT.consS rfl (fun K hK => ?_) AllT.nil))
          · go_simp
            go_at_call 17
            refine (Try_idx _ _ g x (HI.out.ext (by (· repeat (first | (with_reducible assumption) | exact Ext.refl _ | refine Ext.alloc ?_ _ | refine Ext.drew ?_ | refine Ext.drewN ?_ _ | (apply Ext.snart; (with_reducible assumption)))))) (by omega) _ hs1 (-1) (by decide) _ hs2 _ _ _ (HL.out.ext (by (· repeat (first | (with_reducible assumption) | exact Ext.refl _ | refine Ext.alloc ?_ _ | refine Ext.drew ?_ | refine Ext.drewN ?_ _ | (apply Ext.snart; (with_reducible assumption)))))) hlen (by omega)).mono ?_
            rintro e w' ⟨ev', rfl, hev', hx'⟩
            rw [HZ.out] at hev' ⊢
            dsimp only at hev' ⊢
            obtain ⟨ea', ec', rfl, -, -⟩ := hev'.slice
            have hx0' : Ext wo w' := (show Ext wo _ by (· repeat (first | (with_reducible assumption) | exact Ext.refl _ | refine Ext.alloc ?_ _ | refine Ext.drew ?_ | refine Ext.drewN ?_ _ | (apply Ext.snart; (with_reducible assumption))))).trans hx'
            have hsx' : wo.heap.size + 1 ≤ w'.heap.size := by have h : (wo.alloc (.cells #[.int .i64 0, .int .i64 0, .int .i64 0, .bool false] 29)).heap.size ≤ w'.heap.size := hx'.size; (try simp only [heap_alloc_sz] at h); omega
            have hev' := hev'.upto.mono (S' := fun k => wo.heap.size + 1 ≤ k ∧ k < w'.heap.size) (fun k hk _ => ⟨by have h : (wo.alloc (.cells #[.int .i64 0, .int .i64 0, .int .i64 0, .bool false] 29)).heap.size ≤ k := hk.1; (try simp only [heap_alloc_sz] at h); omega, hk.2⟩)
            (refine hK.out _ _ ?_; clear hK K)
            (refine wpAnyT_any (i := 17) (v := ?_) rfl (by kernel_rfl) (by kernel_rfl) (by kernel_rfl) (by kernel_rfl) (fun _ _ _ h => h) (Or.inl ⟨by rfl, ?_⟩) ?_; rotate_left; ((intro wS hSw; (try simp only [List.getElem_toArray, List.getElem_cons_zero, List.getElem_cons_succ]); go_simp); (try with_reducible rfl)); (try simp only [Act.put, List.getElem_toArray, List.getElem_cons_zero, List.getElem_cons_succ, List.setIfInBounds_toArray, List.set_cons_zero, List.set_cons_succ]))
            (refine wpAnyT_any (i := 18) (v := ?_) rfl (by kernel_rfl) (by kernel_rfl) (by kernel_rfl) (by kernel_rfl) (fun _ _ _ h => h) (Or.inl ⟨by rfl, ?_⟩) ?_; rotate_left; ((intro wS hSw; (try simp only [List.getElem_toArray, List.getElem_cons_zero, List.getElem_cons_succ]); go_simp); (try with_reducible rfl)); (try simp only [Act.put, List.getElem_toArray, List.getElem_cons_zero, List.getElem_cons_succ, List.setIfInBounds_toArray, List.set_cons_zero, List.set_cons_succ]))
            (refine wpAnyT_any (i := 19) (v := ?_) rfl (by kernel_rfl) (by kernel_rfl) (by kernel_rfl) (by kernel_rfl) (fun _ _ _ h => h) (Or.inl ⟨by rfl, ?_⟩) ?_; rotate_left; ((intro wS hSw; (try simp only [List.getElem_toArray, List.getElem_cons_zero, List.getElem_cons_succ]); go_simp); (try with_reducible rfl)); (try simp only [Act.put, List.getElem_toArray, List.getElem_cons_zero, List.getElem_cons_succ, List.setIfInBounds_toArray, List.set_cons_zero, List.set_cons_succ]))
            (refine wpAnyT_any (i := 20) (v := ?_) rfl (by kernel_rfl) (by kernel_rfl) (by kernel_rfl) (by kernel_rfl) (fun _ _ _ h => h) (Or.inl ⟨by rfl, ?_⟩) ?_; rotate_left; ((intro wS hSw; (try simp only [List.getElem_toArray, List.getElem_cons_zero, List.getElem_cons_succ]); go_simp); (try with_reducible rfl)); (try simp only [Act.put, List.getElem_toArray, List.getElem_cons_zero, List.getElem_cons_succ, List.setIfInBounds_toArray, List.set_cons_zero, List.set_cons_succ]))
            refine wpAnyT_all (rs := [22]) (by kernel_rfl) (by decide) (AllT.consS rfl (fun K hK => ?_) AllT.nil)
            go_simp
            (refine hK.out _ _ (keep3 (show Ext wo _ by (· repeat (first | (with_reducible assumption) | exact Ext.refl _ | refine Ext.alloc ?_ _ | refine Ext.drew ?_ | refine Ext.drewN ?_ _ | (apply Ext.snart; (with_reducible assumption))))) d1 d2 d5) (fun hS => ?_); clear hK K)
            have hA : (w'.alloc (.cells #[.string ⟨#[]⟩, .string ⟨#[]⟩, .int .i64 0, .slice none 0 0] 31)).heap[wo.heap.size]? = some (.cells #[.int .i64 0, .int .i64 0, .int .i64 0, .bool false] 29 (0, 0)) := (Below.block ((Ext.refl w').alloc _) _ (by omega)).trans ((Below.block hx' _ (by simp)).trans (heap_alloc_new wo _))
            have hB : (w'.alloc (.cells #[.string ⟨#[]⟩, .string ⟨#[]⟩, .int .i64 0, .slice none 0 0] 31)).heap[w'.heap.size]? = some (.cells #[.string ⟨#[]⟩, .string ⟨#[]⟩, .int .i64 0, .slice none 0 0] 31 (0, 0)) := heap_alloc_new _ _
            have hxW : Ext wo (w'.alloc (.cells #[.string ⟨#[]⟩, .string ⟨#[]⟩, .int .i64 0, .slice none 0 0] 31)) := by (· repeat (first | (with_reducible assumption) | exact Ext.refl _ | refine Ext.alloc ?_ _ | refine Ext.drew ?_ | refine Ext.drewN ?_ _ | (apply Ext.snart; (with_reducible assumption))))
            have hevW : RdS rE (w'.alloc (.cells #[.string ⟨#[]⟩, .string ⟨#[]⟩, .int .i64 0, .slice none 0 0] 31)) (fun k => wo.heap.size ≤ k ∧ k ≠ wo.heap.size ∧ k ≠ w'.heap.size) (.slice ea' bes.length ec') bes := (hev'.ext (show Ext w' _ by (· repeat (first | (with_reducible assumption) | exact Ext.refl _ | refine Ext.alloc ?_ _ | refine Ext.drew ?_ | refine Ext.drewN ?_ _ | (apply Ext.snart; (with_reducible assumption)))))).mono (fun k hk _ => by have h1 := hk.1; have h2 := hk.2; refine ⟨?_, ?_, ?_⟩ <;> omega)
            have hAB : ¬ wo.heap.size = w'.heap.size := by omega
            have hgA : wo.heap.size ≤ wo.heap.size := by omega
            have hgB : wo.heap.size ≤ w'.heap.size := by omega
            obtain ⟨W0, hW0⟩ : ∃ W0, W0 = w'.alloc (.cells #[.string ⟨#[]⟩, .string ⟨#[]⟩, .int .i64 0, .slice none 0 0] 31) := ⟨_, rfl⟩
            rw [← hW0] at hA hB hxW hevW ⊢
            clear hW0
            have HA := hid hA
            have HB := hid hB
            have HEVW := hid hevW
            have HXW := hid hxW
            have yA0 : W0.cell? ⟨wo.heap.size, 0, none⟩ = some (.int .i64 0) := (cell_of_row _ _ 0 _ _ _ HA.out).trans rfl
            have xA0 := frozen_blk HA.out 0
            have yA1 : W0.cell? ⟨wo.heap.size, 1, none⟩ = some (.int .i64 0) := (cell_of_row _ _ 1 _ _ _ HA.out).trans rfl
            have xA1 := frozen_blk HA.out 1
            have yA2 : W0.cell? ⟨wo.heap.size, 2, none⟩ = some (.int .i64 0) := (cell_of_row _ _ 2 _ _ _ HA.out).trans rfl
            have xA2 := frozen_blk HA.out 2
            have yA3 : W0.cell? ⟨wo.heap.size, 3, none⟩ = some (.bool false) := (cell_of_row _ _ 3 _ _ _ HA.out).trans rfl
            have xA3 := frozen_blk HA.out 3
            have yB0 : W0.cell? ⟨w'.heap.size, 0, none⟩ = some (.string ⟨#[]⟩) := (cell_of_row _ _ 0 _ _ _ HB.out).trans rfl
            have xB0 := frozen_blk HB.out 0
            have yB1 : W0.cell? ⟨w'.heap.size, 1, none⟩ = some (.string ⟨#[]⟩) := (cell_of_row _ _ 1 _ _ _ HB.out).trans rfl
            have xB1 := frozen_blk HB.out 1
            have yB2 : W0.cell? ⟨w'.heap.size, 2, none⟩ = some (.int .i64 0) := (cell_of_row _ _ 2 _ _ _ HB.out).trans rfl
            have xB2 := frozen_blk HB.out 2
            have yB3 : W0.cell? ⟨w'.heap.size, 3, none⟩ = some (.slice none 0 0) := (cell_of_row _ _ 3 _ _ _ HB.out).trans rfl
            have xB3 := frozen_blk HB.out 3
            have hBA : ¬ w'.heap.size = wo.heap.size := by omega
            clear hA hB hxW hevW hev' hx' hsx' hx0' d1 d2 d5
            refine wpAnyT_all (rs := [23]) (by kernel_rfl) (by decide) (AllT.consF rfl rfl (fun K hK => ?_) AllT.nil)
            go_simp
            (refine hK.out _ _ ?_; clear hK K)
            refine wpAnyT_all (rs := [24]) (by kernel_rfl) (by decide) (AllT.consF rfl rfl (fun K hK => ?_) AllT.nil)
            go_simp
            (refine hK.out _ _ ?_; clear hK K)
            refine wpAnyT_all (rs := [25]) (by kernel_rfl) (by decide) (AllT.consF rfl rfl (fun K hK => ?_) AllT.nil)
            go_simp
            (refine hK.out _ _ ?_; clear hK K)
            refine wpAnyT_done (by kernel_rfl) (NoPanic.normal ?_) _
            go_wp2_with fail
            go_meet
            obtain ⟨qA, qB⟩ := eight_cells (u0 := .int .i64 zf) (u1 := .int .i64 zp) (u2 := .int .i64 zc) (u3 := .bool zg) (v0 := .string bs) (v1 := .string bk) (v2 := .int .i64 bf) (v3 := .slice ea' bes.length ec') HA.out HB.out hAB
            exact ⟨_, _, _, rfl, rfl, rfl, hgB, hgA, ⟨(cell_of_row _ _ 0 _ _ _ qA).trans rfl, (cell_of_row _ _ 1 _ _ _ qA).trans rfl, (cell_of_row _ _ 2 _ _ _ qA).trans rfl, (cell_of_row _ _ 3 _ _ _ qA).trans rfl⟩, ⟨(cell_of_row _ _ 0 _ _ _ qB).trans rfl, (cell_of_row _ _ 1 _ _ _ qB).trans rfl, (cell_of_row _ _ 2 _ _ _ qB).trans rfl, (cell_of_row _ _ 3 _ _ _ qB).trans rfl⟩, (HEVW.out.kept (eight_keep (fun h => h.2.1 rfl) (fun h => h.2.2 rfl))).mono (fun k hk _ => hk.1), eight_ext HXW.out hgA hgB⟩
          · go_simp
            (refine hK.out _ _ (keep3 (show Ext wo _ by (· repeat (first | (with_reducible assumption) | exact Ext.refl _ | refine Ext.alloc ?_ _ | refine Ext.drew ?_ | refine Ext.drewN ?_ _ | (apply Ext.snart; (with_reducible assumption))))) d1 d2 d5) (fun hS => ?_); clear hK K)
            refine wpAnyT_all (rs := [16]) (by kernel_rfl) (by decide) (AllT.consF rfl rfl (fun K hK => ?_) AllT.nil)
            go_simp
            go_at_call 17
            refine (Try_idx _ _ g x (HI.out.ext (by (· repeat (first | (with_reducible assumption) | exact Ext.refl _ | refine Ext.alloc ?_ _ | refine Ext.drew ?_ | refine Ext.drewN ?_ _ | (apply Ext.snart; (with_reducible assumption)))))) (by omega) _ hs1 (-1) (by decide) _ hs2 _ _ _ (HL.out.ext (by (· repeat (first | (with_reducible assumption) | exact Ext.refl _ | refine Ext.alloc ?_ _ | refine Ext.drew ?_ | refine Ext.drewN ?_ _ | (apply Ext.snart; (with_reducible assumption)))))) hlen (by omega)).mono ?_
            rintro e w' ⟨ev', rfl, hev', hx'⟩
            rw [HZ.out] at hev' ⊢
            dsimp only at hev' ⊢
            obtain ⟨ea', ec', rfl, -, -⟩ := hev'.slice
            have hx0' : Ext wo w' := (show Ext wo _ by (· repeat (first | (with_reducible assumption) | exact Ext.refl _ | refine Ext.alloc ?_ _ | refine Ext.drew ?_ | refine Ext.drewN ?_ _ | (apply Ext.snart; (with_reducible assumption))))).trans hx'
            have hsx' : wo.heap.size + 2 ≤ w'.heap.size := by have h : ((wo.alloc (.cells #[.int .i64 0, .int .i64 0, .int .i64 0, .bool false] 29)).alloc (.cells #[.string ⟨#[]⟩, .string ⟨#[]⟩, .int .i64 0, .slice none 0 0] 31)).heap.size ≤ w'.heap.size := hx'.size; (try simp only [heap_alloc_sz] at h); omega
            have hev' := hev'.upto.mono (S' := fun k => wo.heap.size + 2 ≤ k ∧ k < w'.heap.size) (fun k hk _ => ⟨by have h : ((wo.alloc (.cells #[.int .i64 0, .int .i64 0, .int .i64 0, .bool false] 29)).alloc (.cells #[.string ⟨#[]⟩, .string ⟨#[]⟩, .int .i64 0, .slice none 0 0] 31)).heap.size ≤ k := hk.1; (try simp only [heap_alloc_sz] at h); omega, hk.2⟩)
            (refine hK.out _ _ ?_; clear hK K)
            (refine wpAnyT_any (i := 17) (v := ?_) rfl (by kernel_rfl) (by kernel_rfl) (by kernel_rfl) (by kernel_rfl) (fun _ _ _ h => h) (Or.inl ⟨by rfl, ?_⟩) ?_; rotate_left; ((intro wS hSw; (try simp only [List.getElem_toArray, List.getElem_cons_zero, List.getElem_cons_succ]); go_simp); (try with_reducible rfl)); (try simp only [Act.put, List.getElem_toArray, List.getElem_cons_zero, List.getElem_cons_succ, List.setIfInBounds_toArray, List.set_cons_zero, List.set_cons_succ]))
            (refine wpAnyT_any (i := 18) (v := ?_) rfl (by kernel_rfl) (by kernel_rfl) (by kernel_rfl) (by kernel_rfl) (fun _ _ _ h => h) (Or.inl ⟨by rfl, ?_⟩) ?_; rotate_left; ((intro wS hSw; (try simp only [List.getElem_toArray, List.getElem_cons_zero, List.getElem_cons_succ]); go_simp); (try with_reducible rfl)); (try simp only [Act.put, List.getElem_toArray, List.getElem_cons_zero, List.getElem_cons_succ, List.setIfInBounds_toArray, List.set_cons_zero, List.set_cons_succ]))
            (refine wpAnyT_any (i := 19) (v := ?_) rfl (by kernel_rfl) (by kernel_rfl) (by kernel_rfl) (by kernel_rfl) (fun _ _ _ h => h) (Or.inl ⟨by rfl, ?_⟩) ?_; rotate_left; ((intro wS hSw; (try simp only [List.getElem_toArray, List.getElem_cons_zero, List.getElem_cons_succ]); go_simp); (try with_reducible rfl)); (try simp only [Act.put, List.getElem_toArray, List.getElem_cons_zero, List.getElem_cons_succ, List.setIfInBounds_toArray, List.set_cons_zero, List.set_cons_succ]))
            (refine wpAnyT_any (i := 20) (v := ?_) rfl (by kernel_rfl) (by kernel_rfl) (by kernel_rfl) (by kernel_rfl) (fun _ _ _ h => h) (Or.inl ⟨by rfl, ?_⟩) ?_; rotate_left; ((intro wS hSw; (try simp only [List.getElem_toArray, List.getElem_cons_zero, List.getElem_cons_succ]); go_simp); (try with_reducible rfl)); (try simp only [Act.put, List.getElem_toArray, List.getElem_cons_zero, List.getElem_cons_succ, List.setIfInBounds_toArray, List.set_cons_zero, List.set_cons_succ]))
            have hA : (w').heap[wo.heap.size]? = some (.cells #[.int .i64 0, .int .i64 0, .int .i64 0, .bool false] 29 (0, 0)) := (Below.block hx' _ (by simp; omega)).trans (alloc_two_a wo _ _ _)
            have hB : (w').heap[(wo.heap.size + 1)]? = some (.cells #[.string ⟨#[]⟩, .string ⟨#[]⟩, .int .i64 0, .slice none 0 0] 31 (0, 0)) := (Below.block hx' _ (by simp)).trans (alloc_two_b wo _ _ _)
            have hxW : Ext wo (w') := hx0'
            have hevW : RdS rE (w') (fun k => wo.heap.size ≤ k ∧ k ≠ wo.heap.size ∧ k ≠ (wo.heap.size + 1)) (.slice ea' bes.length ec') bes := (hev'.ext (show Ext w' _ by (· repeat (first | (with_reducible assumption) | exact Ext.refl _ | refine Ext.alloc ?_ _ | refine Ext.drew ?_ | refine Ext.drewN ?_ _ | (apply Ext.snart; (with_reducible assumption)))))).mono (fun k hk _ => by have h1 := hk.1; have h2 := hk.2; refine ⟨?_, ?_, ?_⟩ <;> omega)
            have hAB : ¬ wo.heap.size = (wo.heap.size + 1) := by omega
            have hgA : wo.heap.size ≤ wo.heap.size := by omega
            have hgB : wo.heap.size ≤ (wo.heap.size + 1) := by omega
            obtain ⟨W0, rfl⟩ : ∃ W0 : World, W0 = w' := ⟨_, rfl⟩
            have HA := hid hA
            have HB := hid hB
            have HEVW := hid hevW
            have HXW := hid hxW
            have yA0 : W0.cell? ⟨wo.heap.size, 0, none⟩ = some (.int .i64 0) := (cell_of_row _ _ 0 _ _ _ HA.out).trans rfl
            have xA0 := frozen_blk HA.out 0
            have yA1 : W0.cell? ⟨wo.heap.size, 1, none⟩ = some (.int .i64 0) := (cell_of_row _ _ 1 _ _ _ HA.out).trans rfl
            have xA1 := frozen_blk HA.out 1
            have yA2 : W0.cell? ⟨wo.heap.size, 2, none⟩ = some (.int .i64 0) := (cell_of_row _ _ 2 _ _ _ HA.out).trans rfl
            have xA2 := frozen_blk HA.out 2
            have yA3 : W0.cell? ⟨wo.heap.size, 3, none⟩ = some (.bool false) := (cell_of_row _ _ 3 _ _ _ HA.out).trans rfl
            have xA3 := frozen_blk HA.out 3
            have yB0 : W0.cell? ⟨(wo.heap.size + 1), 0, none⟩ = some (.string ⟨#[]⟩) := (cell_of_row _ _ 0 _ _ _ HB.out).trans rfl
            have xB0 := frozen_blk HB.out 0
            have yB1 : W0.cell? ⟨(wo.heap.size + 1), 1, none⟩ = some (.string ⟨#[]⟩) := (cell_of_row _ _ 1 _ _ _ HB.out).trans rfl
            have xB1 := frozen_blk HB.out 1
            have yB2 : W0.cell? ⟨(wo.heap.size + 1), 2, none⟩ = some (.int .i64 0) := (cell_of_row _ _ 2 _ _ _ HB.out).trans rfl
            have xB2 := frozen_blk HB.out 2
            have yB3 : W0.cell? ⟨(wo.heap.size + 1), 3, none⟩ = some (.slice none 0 0) := (cell_of_row _ _ 3 _ _ _ HB.out).trans rfl
            have xB3 := frozen_blk HB.out 3
            have hBA : ¬ (wo.heap.size + 1) = wo.heap.size := by omega
            clear hA hB hxW hevW hev' hx' hsx' hx0' d1 d2 d5
            refine wpAnyT_all (rs := [23]) (by kernel_rfl) (by decide) (AllT.consF rfl rfl (fun K hK => ?_) AllT.nil)
            go_simp
            (refine hK.out _ _ ?_; clear hK K)
            refine wpAnyT_all (rs := [24]) (by kernel_rfl) (by decide) (AllT.consF rfl rfl (fun K hK => ?_) AllT.nil)
            go_simp
            (refine hK.out _ _ ?_; clear hK K)
            refine wpAnyT_all (rs := [25]) (by kernel_rfl) (by decide) (AllT.consF rfl rfl (fun K hK => ?_) AllT.nil)
            go_simp
            (refine hK.out _ _ ?_; clear hK K)
            refine wpAnyT_done (by kernel_rfl) (NoPanic.normal ?_) _
            go_wp2_with fail
            go_meet
            obtain ⟨qA, qB⟩ := eight_cells (u0 := .int .i64 zf) (u1 := .int .i64 zp) (u2 := .int .i64 zc) (u3 := .bool zg) (v0 := .string bs) (v1 := .string bk) (v2 := .int .i64 bf) (v3 := .slice ea' bes.length ec') HA.out HB.out hAB
            exact ⟨_, _, _, rfl, rfl, rfl, hgB, hgA, ⟨(cell_of_row _ _ 0 _ _ _ qA).trans rfl, (cell_of_row _ _ 1 _ _ _ qA).trans rfl, (cell_of_row _ _ 2 _ _ _ qA).trans rfl, (cell_of_row _ _ 3 _ _ _ qA).trans rfl⟩, ⟨(cell_of_row _ _ 0 _ _ _ qB).trans rfl, (cell_of_row _ _ 1 _ _ _ qB).trans rfl, (cell_of_row _ _ 2 _ _ _ qB).trans rfl, (cell_of_row _ _ 3 _ _ _ qB).trans rfl⟩, (HEVW.out.kept (eight_keep (fun h => h.2.1 rfl) (fun h => h.2.2 rfl))).mono (fun k hk _ => hk.1), eight_ext HXW.out hgA hgB⟩
        · go_simp
          (refine hK.out _ _ (keep3 (show Ext wo _ by (· repeat (first | (with_reducible assumption) | exact Ext.refl _ | refine Ext.alloc ?_ _ | refine Ext.drew ?_ | refine Ext.drewN ?_ _ | (apply Ext.snart; (with_reducible assumption))))) d1 d2 d5) (fun hS => ?_); clear hK K)
          refine wpAnyT_all (rs := [16, 21]) (by kernel_rfl) (by decide) (AllT.consF rfl rfl (fun K hK => ?_) (AllT.consS rfl (fun K hK => ?_) AllT.nil))
          · go_simp
            go_at_call 17
            refine (Try_idx _ _ g x (HI.out.ext (by (· repeat (first | (with_reducible assumption) | exact Ext.refl _ | refine Ext.alloc ?_ _ | refine Ext.drew ?_ | refine Ext.drewN ?_ _ | (apply Ext.snart; (with_reducible assumption)))))) (by omega) _ hs1 (-1) (by decide) _ hs2 _ _ _ (HL.out.ext (by (· repeat (first | (with_reducible assumption) | exact Ext.refl _ | refine Ext.alloc ?_ _ | refine Ext.drew ?_ | refine Ext.drewN ?_ _ | (apply Ext.snart; (with_reducible assumption)))))) hlen (by omega)).mono ?_
            rintro e w' ⟨ev', rfl, hev', hx'⟩
            rw [HZ.out] at hev' ⊢
            dsimp only at hev' ⊢
            obtain ⟨ea', ec', rfl, -, -⟩ := hev'.slice
            have hx0' : Ext wo w' := (show Ext wo _ by (· repeat (first | (with_reducible assumption) | exact Ext.refl _ | refine Ext.alloc ?_ _ | refine Ext.drew ?_ | refine Ext.drewN ?_ _ | (apply Ext.snart; (with_reducible assumption))))).trans hx'
            have hsx' : wo.heap.size + 1 ≤ w'.heap.size := by have h : (wo.alloc (.cells #[.string ⟨#[]⟩, .string ⟨#[]⟩, .int .i64 0, .slice none 0 0] 31)).heap.size ≤ w'.heap.size := hx'.size; (try simp only [heap_alloc_sz] at h); omega
            have hev' := hev'.upto.mono (S' := fun k => wo.heap.size + 1 ≤ k ∧ k < w'.heap.size) (fun k hk _ => ⟨by have h : (wo.alloc (.cells #[.string ⟨#[]⟩, .string ⟨#[]⟩, .int .i64 0, .slice none 0 0] 31)).heap.size ≤ k := hk.1; (try simp only [heap_alloc_sz] at h); omega, hk.2⟩)
            (refine hK.out _ _ ?_; clear hK K)
            (refine wpAnyT_any (i := 17) (v := ?_) rfl (by kernel_rfl) (by kernel_rfl) (by kernel_rfl) (by kernel_rfl) (fun _ _ _ h => h) (Or.inl ⟨by rfl, ?_⟩) ?_; rotate_left; ((intro wS hSw; (try simp only [List.getElem_toArray, List.getElem_cons_zero, List.getElem_cons_succ]); go_simp); (try with_reducible rfl)); (try simp only [Act.put, List.getElem_toArray, List.getElem_cons_zero, List.getElem_cons_succ, List.setIfInBounds_toArray, List.set_cons_zero, List.set_cons_succ]))
            (refine wpAnyT_any (i := 18) (v := ?_) rfl (by kernel_rfl) (by kernel_rfl) (by kernel_rfl) (by kernel_rfl) (fun _ _ _ h => h) (Or.inl ⟨by rfl, ?_⟩) ?_; rotate_left; ((intro wS hSw; (try simp only [List.getElem_toArray, List.getElem_cons_zero, List.getElem_cons_succ]); go_simp); (try with_reducible rfl)); (try simp only [Act.put, List.getElem_toArray, List.getElem_cons_zero, List.getElem_cons_succ, List.setIfInBounds_toArray, List.set_cons_zero, List.set_cons_succ]))
            (refine wpAnyT_any (i := 19) (v := ?_) rfl (by kernel_rfl) (by kernel_rfl) (by kernel_rfl) (by kernel_rfl) (fun _ _ _ h => h) (Or.inl ⟨by rfl, ?_⟩) ?_; rotate_left; ((intro wS hSw; (try simp only [List.getElem_toArray, List.getElem_cons_zero, List.getElem_cons_succ]); go_simp); (try with_reducible rfl)); (try simp only [Act.put, List.getElem_toArray, List.getElem_cons_zero, List.getElem_cons_succ, List.setIfInBounds_toArray, List.set_cons_zero, List.set_cons_succ]))
            (refine wpAnyT_any (i := 20) (v := ?_) rfl (by kernel_rfl) (by kernel_rfl) (by kernel_rfl) (by kernel_rfl) (fun _ _ _ h => h) (Or.inl ⟨by rfl, ?_⟩) ?_; rotate_left; ((intro wS hSw; (try simp only [List.getElem_toArray, List.getElem_cons_zero, List.getElem_cons_succ]); go_simp); (try with_reducible rfl)); (try simp only [Act.put, List.getElem_toArray, List.getElem_cons_zero, List.getElem_cons_succ, List.setIfInBounds_toArray, List.set_cons_zero, List.set_cons_succ]))
            refine wpAnyT_all (rs := [21]) (by kernel_rfl) (by decide) (AllT.consS rfl (fun K hK => ?_) AllT.nil)
            go_simp
            (refine hK.out _ _ (keep3 (show Ext wo _ by (· repeat (first | (with_reducible assumption) | exact Ext.refl _ | refine Ext.alloc ?_ _ | refine Ext.drew ?_ | refine Ext.drewN ?_ _ | (apply Ext.snart; (with_reducible assumption))))) d1 d2 d5) (fun hS => ?_); clear hK K)
            have hA : (w'.alloc (.cells #[.int .i64 0, .int .i64 0, .int .i64 0, .bool false] 29)).heap[w'.heap.size]? = some (.cells #[.int .i64 0, .int .i64 0, .int .i64 0, .bool false] 29 (0, 0)) := heap_alloc_new _ _
            have hB : (w'.alloc (.cells #[.int .i64 0, .int .i64 0, .int .i64 0, .bool false] 29)).heap[wo.heap.size]? = some (.cells #[.string ⟨#[]⟩, .string ⟨#[]⟩, .int .i64 0, .slice none 0 0] 31 (0, 0)) := (Below.block ((Ext.refl w').alloc _) _ (by omega)).trans ((Below.block hx' _ (by simp)).trans (heap_alloc_new wo _))
            have hxW : Ext wo (w'.alloc (.cells #[.int .i64 0, .int .i64 0, .int .i64 0, .bool false] 29)) := by (· repeat (first | (with_reducible assumption) | exact Ext.refl _ | refine Ext.alloc ?_ _ | refine Ext.drew ?_ | refine Ext.drewN ?_ _ | (apply Ext.snart; (with_reducible assumption))))
            have hevW : RdS rE (w'.alloc (.cells #[.int .i64 0, .int .i64 0, .int .i64 0, .bool false] 29)) (fun k => wo.heap.size ≤ k ∧ k ≠ w'.heap.size ∧ k ≠ wo.heap.size) (.slice ea' bes.length ec') bes := (hev'.ext (show Ext w' _ by (· repeat (first | (with_reducible assumption) | exact Ext.refl _ | refine Ext.alloc ?_ _ | refine Ext.drew ?_ | refine Ext.drewN ?_ _ | (apply Ext.snart; (with_reducible assumption)))))).mono (fun k hk _ => by have h1 := hk.1; have h2 := hk.2; refine ⟨?_, ?_, ?_⟩ <;> omega)
            have hAB : ¬ w'.heap.size = wo.heap.size := by omega
            have hgA : wo.heap.size ≤ w'.heap.size := by omega
            have hgB : wo.heap.size ≤ wo.heap.size := by omega
            obtain ⟨W0, hW0⟩ : ∃ W0, W0 = w'.alloc (.cells #[.int .i64 0, .int .i64 0, .int .i64 0, .bool false] 29) := ⟨_, rfl⟩
            rw [← hW0] at hA hB hxW hevW ⊢
            clear hW0
            have HA := hid hA
            have HB := hid hB
            have HEVW := hid hevW
            have HXW := hid hxW
            have yA0 : W0.cell? ⟨w'.heap.size, 0, none⟩ = some (.int .i64 0) := (cell_of_row _ _ 0 _ _ _ HA.out).trans rfl
            have xA0 := frozen_blk HA.out 0
            have yA1 : W0.cell? ⟨w'.heap.size, 1, none⟩ = some (.int .i64 0) := (cell_of_row _ _ 1 _ _ _ HA.out).trans rfl
            have xA1 := frozen_blk HA.out 1
            have yA2 : W0.cell? ⟨w'.heap.size, 2, none⟩ = some (.int .i64 0) := (cell_of_row _ _ 2 _ _ _ HA.out).trans rfl
            have xA2 := frozen_blk HA.out 2
            have yA3 : W0.cell? ⟨w'.heap.size, 3, none⟩ = some (.bool false) := (cell_of_row _ _ 3 _ _ _ HA.out).trans rfl
            have xA3 := frozen_blk HA.out 3
            have yB0 : W0.cell? ⟨wo.heap.size, 0, none⟩ = some (.string ⟨#[]⟩) := (cell_of_row _ _ 0 _ _ _ HB.out).trans rfl
            have xB0 := frozen_blk HB.out 0
            have yB1 : W0.cell? ⟨wo.heap.size, 1, none⟩ = some (.string ⟨#[]⟩) := (cell_of_row _ _ 1 _ _ _ HB.out).trans rfl
            have xB1 := frozen_blk HB.out 1
            have yB2 : W0.cell? ⟨wo.heap.size, 2, none⟩ = some (.int .i64 0) := (cell_of_row _ _ 2 _ _ _ HB.out).trans rfl
            have xB2 := frozen_blk HB.out 2
            have yB3 : W0.cell? ⟨wo.heap.size, 3, none⟩ = some (.slice none 0 0) := (cell_of_row _ _ 3 _ _ _ HB.out).trans rfl
            have xB3 := frozen_blk HB.out 3
            have hBA : ¬ wo.heap.size = w'.heap.size := by omega
            clear hA hB hxW hevW hev' hx' hsx' hx0' d1 d2 d5
            refine wpAnyT_all (rs := [23]) (by kernel_rfl) (by decide) (AllT.consF rfl rfl (fun K hK => ?_) AllT.nil)
            go_simp
            (refine hK.out _ _ ?_; clear hK K)
            refine wpAnyT_all (rs := [24]) (by kernel_rfl) (by decide) (AllT.consF rfl rfl (fun K hK => ?_) AllT.nil)
            go_simp
            (refine hK.out _ _ ?_; clear hK K)
            refine wpAnyT_all (rs := [25]) (by kernel_rfl) (by decide) (AllT.consF rfl rfl (fun K hK => ?_) AllT.nil)
            go_simp
            (refine hK.out _ _ ?_; clear hK K)
            refine wpAnyT_done (by kernel_rfl) (NoPanic.normal ?_) _
            go_wp2_with fail
            go_meet
            obtain ⟨qA, qB⟩ := eight_cells (u0 := .int .i64 zf) (u1 := .int .i64 zp) (u2 := .int .i64 zc) (u3 := .bool zg) (v0 := .string bs) (v1 := .string bk) (v2 := .int .i64 bf) (v3 := .slice ea' bes.length ec') HA.out HB.out hAB
            exact ⟨_, _, _, rfl, rfl, rfl, hgB, hgA, ⟨(cell_of_row _ _ 0 _ _ _ qA).trans rfl, (cell_of_row _ _ 1 _ _ _ qA).trans rfl, (cell_of_row _ _ 2 _ _ _ qA).trans rfl, (cell_of_row _ _ 3 _ _ _ qA).trans rfl⟩, ⟨(cell_of_row _ _ 0 _ _ _ qB).trans rfl, (cell_of_row _ _ 1 _ _ _ qB).trans rfl, (cell_of_row _ _ 2 _ _ _ qB).trans rfl, (cell_of_row _ _ 3 _ _ _ qB).trans rfl⟩, (HEVW.out.kept (eight_keep (fun h => h.2.1 rfl) (fun h => h.2.2 rfl))).mono (fun k hk _ => hk.1), eight_ext HXW.out hgA hgB⟩
          · go_simp
            (refine hK.out _ _ (keep3 (show Ext wo _ by (· repeat (first | (with_reducible assumption) | exact Ext.refl _ | refine Ext.alloc ?_ _ | refine Ext.drew ?_ | refine Ext.drewN ?_ _ | (apply Ext.snart; (with_reducible assumption))))) d1 d2 d5) (fun hS => ?_); clear hK K)
            refine wpAnyT_all (rs := [16]) (by kernel_rfl) (by decide) (AllT.consF rfl rfl (fun K hK => ?_) AllT.nil)
            go_simp
            go_at_call 17
            refine (Try_idx _ _ g x (HI.out.ext (by (· repeat (first | (with_reducible assumption) | exact Ext.refl _ | refine Ext.alloc ?_ _ | refine Ext.drew ?_ | refine Ext.drewN ?_ _ | (apply Ext.snart; (with_reducible assumption)))))) (by omega) _ hs1 (-1) (by decide) _ hs2 _ _ _ (HL.out.ext (by (· repeat (first | (with_reducible assumption) | exact Ext.refl _ | refine Ext.alloc ?_ _ | refine Ext.drew ?_ | refine Ext.drewN ?_ _ | (apply Ext.snart; (with_reducible assumption)))))) hlen (by omega)).mono ?_
            rintro e w' ⟨ev', rfl, hev', hx'⟩
            rw [HZ.out] at hev' ⊢
            dsimp only at hev' ⊢
            obtain ⟨ea', ec', rfl, -, -⟩ := hev'.slice
            have hx0' : Ext wo w' := (show Ext wo _ by (· repeat (first | (with_reducible assumption) | exact Ext.refl _ | refine Ext.alloc ?_ _ | refine Ext.drew ?_ | refine Ext.drewN ?_ _ | (apply Ext.snart; (with_reducible assumption))))).trans hx'
            have hsx' : wo.heap.size + 2 ≤ w'.heap.size := by have h : ((wo.alloc (.cells #[.string ⟨#[]⟩, .string ⟨#[]⟩, .int .i64 0, .slice none 0 0] 31)).alloc (.cells #[.int .i64 0, .int .i64 0, .int .i64 0, .bool false] 29)).heap.size ≤ w'.heap.size := hx'.size; (try simp only [heap_alloc_sz] at h); omega
            have hev' := hev'.upto.mono (S' := fun k => wo.heap.size + 2 ≤ k ∧ k < w'.heap.size) (fun k hk _ => ⟨by have h : ((wo.alloc (.cells #[.string ⟨#[]⟩, .string ⟨#[]⟩, .int .i64 0, .slice none 0 0] 31)).alloc (.cells #[.int .i64 0, .int .i64 0, .int .i64 0, .bool false] 29)).heap.size ≤ k := hk.1; (try simp only [heap_alloc_sz] at h); omega, hk.2⟩)
            (refine hK.out _ _ ?_; clear hK K)
            (refine wpAnyT_any (i := 17) (v := ?_) rfl (by kernel_rfl) (by kernel_rfl) (by kernel_rfl) (by kernel_rfl) (fun _ _ _ h => h) (Or.inl ⟨by rfl, ?_⟩) ?_; rotate_left; ((intro wS hSw; (try simp only [List.getElem_toArray, List.getElem_cons_zero, List.getElem_cons_succ]); go_simp); (try with_reducible rfl)); (try simp only [Act.put, List.getElem_toArray, List.getElem_cons_zero, List.getElem_cons_succ, List.setIfInBounds_toArray, List.set_cons_zero, List.set_cons_succ]))
            (refine wpAnyT_any (i := 18) (v := ?_) rfl (by kernel_rfl) (by kernel_rfl) (by kernel_rfl) (by kernel_rfl) (fun _ _ _ h => h) (Or.inl ⟨by rfl, ?_⟩) ?_; rotate_left; ((intro wS hSw; (try simp only [List.getElem_toArray, List.getElem_cons_zero, List.getElem_cons_succ]); go_simp); (try with_reducible rfl)); (try simp only [Act.put, List.getElem_toArray, List.getElem_cons_zero, List.getElem_cons_succ, List.setIfInBounds_toArray, List.set_cons_zero, List.set_cons_succ]))
            (refine wpAnyT_any (i := 19) (v := ?_) rfl (by kernel_rfl) (by kernel_rfl) (by kernel_rfl) (by kernel_rfl) (fun _ _ _ h => h) (Or.inl ⟨by rfl, ?_⟩) ?_; rotate_left; ((intro wS hSw; (try simp only [List.getElem_toArray, List.getElem_cons_zero, List.getElem_cons_succ]); go_simp); (try with_reducible rfl)); (try simp only [Act.put, List.getElem_toArray, List.getElem_cons_zero, List.getElem_cons_succ, List.setIfInBounds_toArray, List.set_cons_zero, List.set_cons_succ]))
            (refine wpAnyT_any (i := 20) (v := ?_) rfl (by kernel_rfl) (by kernel_rfl) (by kernel_rfl) (by kernel_rfl) (fun _ _ _ h => h) (Or.inl ⟨by rfl, ?_⟩) ?_; rotate_left; ((intro wS hSw; (try simp only [List.getElem_toArray, List.getElem_cons_zero, List.getElem_cons_succ]); go_simp); (try with_reducible rfl)); (try simp only [Act.put, List.getElem_toArray, List.getElem_cons_zero, List.getElem_cons_succ, List.setIfInBounds_toArray, List.set_cons_zero, List.set_cons_succ]))
            have hA : (w').heap[(wo.heap.size + 1)]? = some (.cells #[.int .i64 0, .int .i64 0, .int .i64 0, .bool false] 29 (0, 0)) := (Below.block hx' _ (by simp)).trans (alloc_two_b wo _ _ _)
            have hB : (w').heap[wo.heap.size]? = some (.cells #[.string ⟨#[]⟩, .string ⟨#[]⟩, .int .i64 0, .slice none 0 0] 31 (0, 0)) := (Below.block hx' _ (by simp; omega)).trans (alloc_two_a wo _ _ _)
            have hxW : Ext wo (w') := hx0'
            have hevW : RdS rE (w') (fun k => wo.heap.size ≤ k ∧ k ≠ (wo.heap.size + 1) ∧ k ≠ wo.heap.size) (.slice ea' bes.length ec') bes := (hev'.ext (show Ext w' _ by (· repeat (first | (with_reducible assumption) | exact Ext.refl _ | refine Ext.alloc ?_ _ | refine Ext.drew ?_ | refine Ext.drewN ?_ _ | (apply Ext.snart; (with_reducible assumption)))))).mono (fun k hk _ => by have h1 := hk.1; have h2 := hk.2; refine ⟨?_, ?_, ?_⟩ <;> omega)
            have hAB : ¬ (wo.heap.size + 1) = wo.heap.size := by omega
            have hgA : wo.heap.size ≤ (wo.heap.size + 1) := by omega
            have hgB : wo.heap.size ≤ wo.heap.size := by omega
            obtain ⟨W0, rfl⟩ : ∃ W0 : World, W0 = w' := ⟨_, rfl⟩
            have HA := hid hA
            have HB := hid hB
            have HEVW := hid hevW
            have HXW := hid hxW
            have yA0 : W0.cell? ⟨(wo.heap.size + 1), 0, none⟩ = some (.int .i64 0) := (cell_of_row _ _ 0 _ _ _ HA.out).trans rfl
            have xA0 := frozen_blk HA.out 0
            have yA1 : W0.cell? ⟨(wo.heap.size + 1), 1, none⟩ = some (.int .i64 0) := (cell_of_row _ _ 1 _ _ _ HA.out).trans rfl
            have xA1 := frozen_blk HA.out 1
            have yA2 : W0.cell? ⟨(wo.heap.size + 1), 2, none⟩ = some (.int .i64 0) := (cell_of_row _ _ 2 _ _ _ HA.out).trans rfl
            have xA2 := frozen_blk HA.out 2
            have yA3 : W0.cell? ⟨(wo.heap.size + 1), 3, none⟩ = some (.bool false) := (cell_of_row _ _ 3 _ _ _ HA.out).trans rfl
            have xA3 := frozen_blk HA.out 3
            have yB0 : W0.cell? ⟨wo.heap.size, 0, none⟩ = some (.string ⟨#[]⟩) := (cell_of_row _ _ 0 _ _ _ HB.out).trans rfl
            have xB0 := frozen_blk HB.out 0
            have yB1 : W0.cell? ⟨wo.heap.size, 1, none⟩ = some (.string ⟨#[]⟩) := (cell_of_row _ _ 1 _ _ _ HB.out).trans rfl
            have xB1 := frozen_blk HB.out 1
            have yB2 : W0.cell? ⟨wo.heap.size, 2, none⟩ = some (.int .i64 0) := (cell_of_row _ _ 2 _ _ _ HB.out).trans rfl
            have xB2 := frozen_blk HB.out 2
            have yB3 : W0.cell? ⟨wo.heap.size, 3, none⟩ = some (.slice none 0 0) := (cell_of_row _ _ 3 _ _ _ HB.out).trans rfl
            have xB3 := frozen_blk HB.out 3
            have hBA : ¬ wo.heap.size = (wo.heap.size + 1) := by omega
            clear hA hB hxW hevW hev' hx' hsx' hx0' d1 d2 d5
            refine wpAnyT_all (rs := [23]) (by kernel_rfl) (by decide) (AllT.consF rfl rfl (fun K hK => ?_) AllT.nil)
            go_simp
            (refine hK.out _ _ ?_; clear hK K)
            refine wpAnyT_all (rs := [24]) (by kernel_rfl) (by decide) (AllT.consF rfl rfl (fun K hK => ?_) AllT.nil)
            go_simp
            (refine hK.out _ _ ?_; clear hK K)
            refine wpAnyT_all (rs := [25]) (by kernel_rfl) (by decide) (AllT.consF rfl rfl (fun K hK => ?_) AllT.nil)
            go_simp
            (refine hK.out _ _ ?_; clear hK K)
            refine wpAnyT_done (by kernel_rfl) (NoPanic.normal ?_) _
            go_wp2_with fail
            go_meet
            obtain ⟨qA, qB⟩ := eight_cells (u0 := .int .i64 zf) (u1 := .int .i64 zp) (u2 := .int .i64 zc) (u3 := .bool zg) (v0 := .string bs) (v1 := .string bk) (v2 := .int .i64 bf) (v3 := .slice ea' bes.length ec') HA.out HB.out hAB
            exact ⟨_, _, _, rfl, rfl, rfl, hgB, hgA, ⟨(cell_of_row _ _ 0 _ _ _ qA).trans rfl, (cell_of_row _ _ 1 _ _ _ qA).trans rfl, (cell_of_row _ _ 2 _ _ _ qA).trans rfl, (cell_of_row _ _ 3 _ _ _ qA).trans rfl⟩, ⟨(cell_of_row _ _ 0 _ _ _ qB).trans rfl, (cell_of_row _ _ 1 _ _ _ qB).trans rfl, (cell_of_row _ _ 2 _ _ _ qB).trans rfl, (cell_of_row _ _ 3 _ _ _ qB).trans rfl⟩, (HEVW.out.kept (eight_keep (fun h => h.2.1 rfl) (fun h => h.2.2 rfl))).mono (fun k hk _ => hk.1), eight_ext HXW.out hgA hgB⟩
      case rest =>
        obtain ⟨gA, gB, ev, rfl, rfl, rfl, hgB, hgA, -, ⟨b0, b1, b2, b3⟩, hev, hxc⟩ := hcut
        dsimp only at b0 b1 b2 b3 hev
        obtain ⟨ea, ec, rfl, -, hec⟩ := hev.slice
        have hbl : bes.length ≤ 9223372036854775807 := by obtain ⟨_, _, e, h1, h2⟩ := hev.slice; omega
        have HEV := hid hev
        have HXC := hid hxc
        have hsxc := hxc.size
        clear hev hxc d1 d2 d5
        by_cases he0 : er = 0
        · subst he0
          by_cases hl0 : 0 < bes.length
          · have hta := try_add (x := x) (s := cst) (n := -1) (k := cky) (l := cl) (by rw [HZ.out]) (by rw [HZ.out]; exact hl0)
            rw [HZ.out] at hta
            obtain ⟨hk0, hadd⟩ := hta
            have hnew := tryF_new (x := x) (s := cst) (n := -1) (k := cky) (l := cl) (by rw [HZ.out]) hk0
            have hzz := hnew.2.2
            rw [HZ.out] at hzz
            simp only [Prod.mk.injEq] at hzz
            obtain ⟨-, ⟨hq1, hq2, hq3, hq4⟩, -⟩ := hzz
            subst hq1 hq2 hq4
            have HQ3 := hid hq3
            have hq5 : (0 : Int) ≤ bf ∧ bf ≤ 100000 := by omega
            obtain ⟨hq5, hq6⟩ := hq5
            have HADD := hid hadd
            have HRE2 := hid (Reach.add _ HRE.out hadd)
            have hlen2 := addF_len x (bs, bk, bf, bes)
            have HLEN2 := hid hlen2
            clear hk0 hnew hadd hlen2 hq3
            go_wp2_with fail
            refine (Add_idx wc _ g x ((HI.out.mono (T' := fun k => w.heap.size ≤ k ∧ k < wo.heap.size) (fun k hk _ => hk)).ext HXC.out) (by omega) bs hs1 bk hs2 bf ⟨by omega, by omega⟩ (fun k => wo.heap.size ≤ k) (fun j hj h => by have h1 : wo.heap.size ≤ j := hj; omega) _ bes HEV.out hbl (by omega)).mono ?_
            rintro e w9 ⟨rfl, hi9, hk9⟩
            rw [HADD.out]
            have HI9 := hid hi9
            have HX9 := hid (show Ext w w9 from Below.trans (HX.out.trans HXC.out) (hk9.below w.heap.size ((HX.out.trans HXC.out).size) (fun k hk h => by omega)))
            have HS9 := hid hk9.size
            clear hi9 hk9 b0 b1 b2 b3
            go_wp2_with fail
            go_roundw
            case rel => exact ⟨i + 1, _, by go_num, by omega, by omega, HI9.out.mono (fun k hk hl => by have := HX.out.size; rcases hk with h | h; exact ⟨h.1, hl⟩; exact ⟨by omega, hl⟩), HRE2.out, by have := HLEN2.out.2; omega, HX9.out⟩
            case measure => simp [intOf]; omega
          · have hz0 : bes.length = 0 := by omega
            rw [hz0] at b3
            clear b0 b1 b2
            go_wp2_with fail
            go_roundw
            case rel => exact ⟨i + 1, x, by go_num, by omega, by omega, (HI.out.ext HXC.out).mono (fun k hk hl => ⟨hk.1, hl⟩), HRE.out, by omega, HX.out.trans HXC.out⟩
            case measure => simp [intOf]; omega
        · have he1 : ((er : Int) == 0) = false := by rw [beq_eq_false_iff_ne]; omega
          have he2 : ((er : Int) != 0) = true := by rw [bne_iff_ne]; omega
          clear b0 b1 b2 b3
          go_wp2_with fail
          go_roundw
          case rel => exact ⟨i + 1, x, by go_num, by omega, by omega, (HI.out.ext HXC.out).mono (fun k hk hl => ⟨hk.1, hl⟩), HRE.out, by omega, HX.out.trans HXC.out⟩
          case measure => simp [intOf]; omega
    · have hex : ¬ i < cs.length ∨ (i < cs.length ∧ ¬ i < 40) := by omega
      clear hgo hx
      rcases hex with h | ⟨h1, h2⟩
      all_goals
        go_wp2_with fail
        go_ret
        exact ⟨g, x, rfl, HI.out, HRE.out, by omega, HX.out⟩
end Go.Proofs.Ythobhkmphjnlaaa
