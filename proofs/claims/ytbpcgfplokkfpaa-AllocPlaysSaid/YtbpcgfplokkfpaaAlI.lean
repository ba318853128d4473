/- alloc's iterator: what it gives. -/
import Derived.Test.YtbpcgfplokkfpaaAlA
import Derived.Test.YtbpcgfplokkfpaaSeqC
import Derived.Test.YtbpcgfplokkfpaaRegT
import Derived.Shelf.Abstract
import Derived.Shelf.RegionOpen
import Derived.OwnWalkIn
import Derived.TacticsInMore
import Derived.LoopNIn
import Derived.LoopIn
import Derived.Deep.DeepCutAuto
-- AUXRFL
namespace Go.Proofs.Ytbpcgfplokkfpaa
open Go.RowKit
set_option linter.unusedVariables false
set_option linter.unusedSimpArgs false

def encR (x : Nat × Nat) : Array Value := #[.agg #[.int .i64 (x.1 : Int), .int .i64 (x.2 : Int)]]
theorem keepS3 {w W : World} {p q r : Addr} {a b c : Value} (h : Ext w W) (c1 : w.cell? p = some a ∧ w.cell? q = some b ∧ w.cell? r = some c) : W.cell? p = some a ∧ W.cell? q = some b ∧ W.cell? r = some c := ⟨h.cellS c1.1, h.cellS c1.2.1, h.cellS c1.2.2⟩

/-- the two clones lie in boxes of the iterator's own -/
def Cloned (W : World) (now last : List Bool) (s3 s4 : Value) (wx : World) : Prop :=
  ∃ b3 b4 v3 v4, s3 = .pointer (some ⟨b3, 0, none⟩) ∧ s4 = .pointer (some ⟨b4, 0, none⟩) ∧ W.heap.size ≤ b3 ∧ W.heap.size ≤ b4 ∧ b3 < wx.heap.size ∧ b4 < wx.heap.size ∧ wx.cell? ⟨b3, 0, none⟩ = some v3 ∧ wx.cell? ⟨b4, 0, none⟩ = some v4 ∧
    RdS rBo wx (fun k => W.heap.size ≤ k ∧ k < wx.heap.size) v3 now ∧ RdS rBo wx (fun k => W.heap.size ≤ k ∧ k < wx.heap.size) v4 last ∧ Ext W wx

theorem iter_leaf {W wz : World} {b3 b4 : Nat} {v3 v4 : Value} {now last : List Bool} (hx : Ext W wz) (h3 : wz.heap[b3]? = some (.cells #[.slice none 0 0] 36 (0, 0))) (h4 : wz.heap[b4]? = some (.cells #[.slice none 0 0] 36 (0, 0))) (hne : b3 ≠ b4) (l3 : W.heap.size ≤ b3) (l4 : W.heap.size ≤ b4)
    (o3 : RdS rBo wz (fun k => W.heap.size ≤ k ∧ k ≠ b3 ∧ k ≠ b4) v3 now) (o4 : RdS rBo wz (fun k => W.heap.size ≤ k ∧ k ≠ b3 ∧ k ≠ b4) v4 last) :
    Cloned W now last (.pointer (some ⟨b3, 0, none⟩)) (.pointer (some ⟨b4, 0, none⟩)) ((wz.setCell ⟨b3, 0, none⟩ v3).setCell ⟨b4, 0, none⟩ v4) := by
  have k3 := (Array.getElem?_eq_some_iff.1 h3).1
  have k4 := (Array.getElem?_eq_some_iff.1 h4).1
  have e3 := set_blk (o := 0) h3 v3
  have e3' : ((wz.setCell ⟨b3, 0, none⟩ v3).setCell ⟨b4, 0, none⟩ v4).heap[b3]? = _ := (Below.heap_setCell (wz.setCell ⟨b3, 0, none⟩ v3) ⟨b4, 0, none⟩ v4 b3 hne).trans e3
  have h4' : (wz.setCell ⟨b3, 0, none⟩ v3).heap[b4]? = _ := (Below.heap_setCell wz ⟨b3, 0, none⟩ v3 b4 (fun e => hne e.symm)).trans h4
  have e4 := set_blk (o := 0) h4' v4
  have hk : Keep (fun k => W.heap.size ≤ k ∧ k ≠ b3 ∧ k ≠ b4) wz ((wz.setCell ⟨b3, 0, none⟩ v3).setCell ⟨b4, 0, none⟩ v4) :=
    ((Keep.refl _ wz).setCell (p := ⟨b3, 0, none⟩) (fun h => h.2.1 rfl) v3).setCell (p := ⟨b4, 0, none⟩) (fun h => h.2.2 rfl) v4
  refine ⟨b3, b4, v3, v4, rfl, rfl, l3, l4, by simp only [heap_setCell_sz]; exact k3, by simp only [heap_setCell_sz]; exact k4, (cell_of_row _ _ 0 _ _ _ e3').trans rfl, (cell_of_row _ _ 0 _ _ _ e4).trans rfl, (o3.kept hk).mono fun k h hl => ⟨h.1, hl⟩, (o4.kept hk).mono fun k h hl => ⟨h.1, hl⟩, (hx.setCell (p := ⟨b3, 0, none⟩) l3 v3).setCell (p := ⟨b4, 0, none⟩) l4 v4⟩

set_option maxRecDepth 100000 in
set_option maxHeartbeats 4000000 in
theorem All1_seq (dep : Nat) (w : World) (g Bm : Nat) (vn vl : Value) (now last : List Bool) (hbox0 : w.cell? ⟨Bm, 0, none⟩ = some (.pointer (some ⟨g, 0, none⟩))) (hc00 : w.cell? ⟨g, 0, none⟩ = some vn) (hc10 : w.cell? ⟨g, 1, none⟩ = some vl)
    (hrn : RdS rBo w (fun _ => True) vn now) (hrl : RdS rBo w (fun _ => True) vl last) (hlen : last.length = now.length) (hlb : now.length ≤ 512) :
    SeqC Fence.wide dep Try.prog 56 #[.pointer (some ⟨Bm, 0, none⟩)] encR (RunsAll now last) (RunsOk now last) w := by
  intro l J Jx C W hW hJ hJx hY hC h0
  refine callsIn_wide.2 ?_
  have hbox := hW.cellS hbox0
  have hc0 := hW.cellS hc00
  have hc1 := hW.cellS hc10
  have HRN := hid (hrn.ext hW)
  have HRL := hid (hrl.ext hW)
  have HJ := hid hJ
  have HJX := hid hJx
  have HY := hid hY
  have HC := hid hC
  have H0 := hid h0
  have hlb2 : last.length ≤ 512 := by omega
  have HLN := hid hlen
  clear hlen
  clear hW hbox0 hc00 hc10 hrn hrl hJ hJx hY hC h0
  simp only [List.push_toArray, List.append_toArray, List.nil_append, List.cons_append]
  go_enter Try.func56, Try.ntmps56
  go_upto_region 1 with fail
  go_cut [3, 4] (fun s3 s4 wx => Cloned W now last s3 s4 wx)
  case first =>
    go_wp2_with fail
    have hxd : Ext W W.drew := by (· repeat (first | (with_reducible assumption) | exact Ext.refl _ | refine Ext.alloc ?_ _ | refine Ext.drew ?_ | refine Ext.drewN ?_ _ | (apply Ext.snart; (with_reducible assumption))))
    refine wp_region_T (fun w' => w'.cell? ⟨Bm, 0, none⟩ = some (.pointer (some ⟨g, 0, none⟩)) ∧ w'.cell? ⟨g, 0, none⟩ = some vn ∧ w'.cell? ⟨g, 1, none⟩ = some vl) [12, 13] (by as_aux_lemma => kernel_rfl) (keepS3 hxd ⟨hbox, hc0, hc1⟩) (fun hS => ?_)
    have hx0 := hxd
    have hz0 := hxd.size
    generalize W.drew = q0 at hS hx0 hz0 ⊢
    have HZ0 := hid hz0
    clear hz0
    (refine wpAnyT_take (i := 0) (v := ?_) rfl (by as_aux_lemma => kernel_rfl) (by as_aux_lemma => kernel_rfl) (by as_aux_lemma => kernel_rfl) (by as_aux_lemma => kernel_rfl) (fun _ _ _ h => h) (Or.inl ⟨by rfl, ?_⟩) (by assumption) ?_; rotate_left; ((intro wS hSw; (try dsimp only at hSw); (try simp only [List.getElem_toArray, List.getElem_cons_zero, List.getElem_cons_succ]); go_simp); (try with_reducible rfl)); (try simp only [Act.put, List.getElem_toArray, List.getElem_cons_zero, List.getElem_cons_succ, List.setIfInBounds_toArray, List.set_cons_zero, List.set_cons_succ]))
    (refine wpAnyT_take (i := 1) (v := ?_) rfl (by as_aux_lemma => kernel_rfl) (by as_aux_lemma => kernel_rfl) (by as_aux_lemma => kernel_rfl) (by as_aux_lemma => kernel_rfl) (fun _ _ _ h => h) (Or.inl ⟨by rfl, ?_⟩) (by assumption) ?_; rotate_left; ((intro wS hSw; (try dsimp only at hSw); (try simp only [List.getElem_toArray, List.getElem_cons_zero, List.getElem_cons_succ]); go_simp); (try with_reducible rfl)); (try simp only [Act.put, List.getElem_toArray, List.getElem_cons_zero, List.getElem_cons_succ, List.setIfInBounds_toArray, List.set_cons_zero, List.set_cons_succ]))
    (refine wpAnyT_take (i := 2) (v := ?_) rfl (by as_aux_lemma => kernel_rfl) (by as_aux_lemma => kernel_rfl) (by as_aux_lemma => kernel_rfl) (by as_aux_lemma => kernel_rfl) (fun _ _ _ h => h) (Or.inl ⟨by rfl, ?_⟩) (by assumption) ?_; rotate_left; ((intro wS hSw; (try dsimp only at hSw); (try simp only [List.getElem_toArray, List.getElem_cons_zero, List.getElem_cons_succ]); go_simp); (try with_reducible rfl)); (try simp only [Act.put, List.getElem_toArray, List.getElem_cons_zero, List.getElem_cons_succ, List.setIfInBounds_toArray, List.set_cons_zero, List.set_cons_succ]))
    (refine wpAnyT_take (i := 3) (v := ?_) rfl (by as_aux_lemma => kernel_rfl) (by as_aux_lemma => kernel_rfl) (by as_aux_lemma => kernel_rfl) (by as_aux_lemma => kernel_rfl) (fun _ _ _ h => h) (Or.inl ⟨by rfl, ?_⟩) (by assumption) ?_; rotate_left; ((intro wS hSw; (try dsimp only at hSw); (try simp only [List.getElem_toArray, List.getElem_cons_zero, List.getElem_cons_succ]); go_simp); (try with_reducible rfl)); (try simp only [Act.put, List.getElem_toArray, List.getElem_cons_zero, List.getElem_cons_succ, List.setIfInBounds_toArray, List.set_cons_zero, List.set_cons_succ]))
    (refine wpAnyT_take (i := 5) (v := ?_) rfl (by as_aux_lemma => kernel_rfl) (by as_aux_lemma => kernel_rfl) (by as_aux_lemma => kernel_rfl) (by as_aux_lemma => kernel_rfl) (fun _ _ _ h => h) (Or.inl ⟨by rfl, ?_⟩) (by assumption) ?_; rotate_left; ((intro wS hSw; (try dsimp only at hSw); (try simp only [List.getElem_toArray, List.getElem_cons_zero, List.getElem_cons_succ]); go_simp); (try with_reducible rfl)); (try simp only [Act.put, List.getElem_toArray, List.getElem_cons_zero, List.getElem_cons_succ, List.setIfInBounds_toArray, List.set_cons_zero, List.set_cons_succ]))
    (refine wpAnyT_take (i := 6) (v := ?_) rfl (by as_aux_lemma => kernel_rfl) (by as_aux_lemma => kernel_rfl) (by as_aux_lemma => kernel_rfl) (by as_aux_lemma => kernel_rfl) (fun _ _ _ h => h) (Or.inl ⟨by rfl, ?_⟩) (by assumption) ?_; rotate_left; ((intro wS hSw; (try dsimp only at hSw); (try simp only [List.getElem_toArray, List.getElem_cons_zero, List.getElem_cons_succ]); go_simp); (try with_reducible rfl)); (try simp only [Act.put, List.getElem_toArray, List.getElem_cons_zero, List.getElem_cons_succ, List.setIfInBounds_toArray, List.set_cons_zero, List.set_cons_succ]))
    (refine wpAnyT_take (i := 7) (v := ?_) rfl (by as_aux_lemma => kernel_rfl) (by as_aux_lemma => kernel_rfl) (by as_aux_lemma => kernel_rfl) (by as_aux_lemma => kernel_rfl) (fun _ _ _ h => h) (Or.inl ⟨by rfl, ?_⟩) (by assumption) ?_; rotate_left; ((intro wS hSw; (try dsimp only at hSw); (try simp only [List.getElem_toArray, List.getElem_cons_zero, List.getElem_cons_succ]); go_simp); (try with_reducible rfl)); (try simp only [Act.put, List.getElem_toArray, List.getElem_cons_zero, List.getElem_cons_succ, List.setIfInBounds_toArray, List.set_cons_zero, List.set_cons_succ]))
    (refine wpAnyT_take (i := 8) (v := ?_) rfl (by as_aux_lemma => kernel_rfl) (by as_aux_lemma => kernel_rfl) (by as_aux_lemma => kernel_rfl) (by as_aux_lemma => kernel_rfl) (fun _ _ _ h => h) (Or.inl ⟨by rfl, ?_⟩) (by assumption) ?_; rotate_left; ((intro wS hSw; (try dsimp only at hSw); (try simp only [List.getElem_toArray, List.getElem_cons_zero, List.getElem_cons_succ]); go_simp); (try with_reducible rfl)); (try simp only [Act.put, List.getElem_toArray, List.getElem_cons_zero, List.getElem_cons_succ, List.setIfInBounds_toArray, List.set_cons_zero, List.set_cons_succ]))
    refine wpAnyT_all (rs := [4, 10, 11]) (by as_aux_lemma => kernel_rfl) (by decide) (AllT.consS rfl (fun K hK => ?_) (AllT.consS rfl (fun K hK => ?_) (AllT.consS rfl (fun K hK => ?_) AllT.nil)))
    · go_simp
      go_at_call 55
      refine (CloneB_any q0 (fun _ => True) vn now (HRN.out.ext hx0) (by omega)).mono ?_
      rintro e q1 ⟨v3_1, rfl, ho1, hx1⟩
      obtain ⟨a1, c1, rfl⟩ := ho1.slice
      have hr1 := ho1.rd.mono (S' := fun k => q0.heap.size ≤ k ∧ k < q1.heap.size) (fun k hk _ => by rcases hk with hk | hk; exact hk.elim; exact ho1.lt k hk)
      have HZ1 := hid hx1.size
      (refine hK.out _ _ (keepS3 hx1 hS) (fun hS => ?_); clear hK K)
      refine wpAnyT_all (rs := [9, 10, 11]) (by as_aux_lemma => kernel_rfl) (by decide) (AllT.consS rfl (fun K hK => ?_) (AllT.consS rfl (fun K hK => ?_) (AllT.consS rfl (fun K hK => ?_) AllT.nil)))
      · go_simp
        go_at_call 55
        refine (CloneB_any q1 (fun _ => True) vl last (HRL.out.ext (hx0.trans hx1)) (by omega)).mono ?_
        rintro e q2 ⟨v4_2, rfl, ho2, hx2⟩
        obtain ⟨a2, c2, rfl⟩ := ho2.slice
        have hr2 := ho2.rd.mono (S' := fun k => q1.heap.size ≤ k ∧ k < q2.heap.size) (fun k hk _ => by rcases hk with hk | hk; exact hk.elim; exact ho2.lt k hk)
        have HZ2 := hid hx2.size
        (refine hK.out _ _ (keepS3 hx2 hS) (fun hS => ?_); clear hK K)
        refine wpAnyT_all (rs := [10, 11]) (by as_aux_lemma => kernel_rfl) (by decide) (AllT.consS rfl (fun K hK => ?_) (AllT.consS rfl (fun K hK => ?_) AllT.nil))
        · go_simp
          (refine hK.out _ _ (keepS3 ((Ext.refl q2).alloc _) hS) (fun hS => ?_); clear hK K)
          have hs3 : (q2.alloc (.cells #[.slice none 0 0] 36)).heap.size = q2.heap.size + 1 := by simp
          have hw3 : (q2.alloc (.cells #[.slice none 0 0] 36)).heap[q2.heap.size]? = some (.cells #[.slice none 0 0] 36 (0, 0)) := heap_alloc_new _ _
          have hx3 : Ext q2 (q2.alloc (.cells #[.slice none 0 0] 36)) := (Ext.refl _).alloc _
          generalize (q2.alloc (.cells #[.slice none 0 0] 36)) = q3 at hs3 hw3 hx3 hS ⊢
          obtain ⟨b3, hb3⟩ : ∃ b, b = q2.heap.size := ⟨_, rfl⟩
          rw [← hb3] at hw3 hs3 ⊢
          have HS3 := hid hs3
          have HB3 := hid hb3
          clear hs3 hb3
          refine wpAnyT_all (rs := [11]) (by as_aux_lemma => kernel_rfl) (by decide) (AllT.consS rfl (fun K hK => ?_) AllT.nil)
          · go_simp
            (refine hK.out _ _ (keepS3 ((Ext.refl q3).alloc _) hS) (fun hS => ?_); clear hK K)
            have hs4 : (q3.alloc (.cells #[.slice none 0 0] 36)).heap.size = q3.heap.size + 1 := by simp
            have hw4 : (q3.alloc (.cells #[.slice none 0 0] 36)).heap[q3.heap.size]? = some (.cells #[.slice none 0 0] 36 (0, 0)) := heap_alloc_new _ _
            have hx4 : Ext q3 (q3.alloc (.cells #[.slice none 0 0] 36)) := (Ext.refl _).alloc _
            generalize (q3.alloc (.cells #[.slice none 0 0] 36)) = q4 at hs4 hw4 hx4 hS ⊢
            obtain ⟨b4, hb4⟩ : ∃ b, b = q3.heap.size := ⟨_, rfl⟩
            rw [← hb4] at hw4 hs4 ⊢
            have HS4 := hid hs4
            have HB4 := hid hb4
            clear hs4 hb4
            have w3 := ((Below.block hx4 _ (by have e0 := HZ0.out; have e1 := HZ1.out; have e2 := HZ2.out; have e3 := HS3.out; have e4 := HB3.out; have e5 := HS4.out; have e6 := HB4.out; omega)).trans hw3)
            have w4 := ((Below.block (Ext.refl _) _ (by have e0 := HZ0.out; have e1 := HZ1.out; have e2 := HZ2.out; have e3 := HS3.out; have e4 := HB3.out; have e5 := HS4.out; have e6 := HB4.out; omega)).trans hw4)
            have yb3 : q4.cell? ⟨b3, 0, none⟩ = some (.slice none 0 0) := (cell_of_row _ _ 0 _ _ _ w3).trans rfl
            have fb3 := frozen_blk w3 0
            have yb4 : q4.cell? ⟨b4, 0, none⟩ = some (.slice none 0 0) := (cell_of_row _ _ 0 _ _ _ w4).trans rfl
            have fb4 := frozen_blk w4 0
            have hn1 : ¬ b3 = b4 := (by have e0 := HZ0.out; have e1 := HZ1.out; have e2 := HZ2.out; have e3 := HS3.out; have e4 := HB3.out; have e5 := HS4.out; have e6 := HB4.out; omega)
            have hn2 : ¬ b4 = b3 := (by have e0 := HZ0.out; have e1 := HZ1.out; have e2 := HZ2.out; have e3 := HS3.out; have e4 := HB3.out; have e5 := HS4.out; have e6 := HB4.out; omega)
            have HW3 := hid w3
            have HW4 := hid w4
            clear w3 w4
            refine wpAnyT_all (rs := [12]) (by as_aux_lemma => kernel_rfl) (by decide) (AllT.consF rfl rfl (fun K hK => ?_) AllT.nil)
            go_simp
            (refine hK.out _ _ ?_; clear hK K)
            refine wpAnyT_all (rs := [13]) (by as_aux_lemma => kernel_rfl) (by decide) (AllT.consF rfl rfl (fun K hK => ?_) AllT.nil)
            go_simp
            (refine hK.out _ _ ?_; clear hK K)
            refine wpAnyT_done (by as_aux_lemma => kernel_rfl) (NoPanic.normal ?_) _
            go_wp2_with fail
            go_meet
            exact iter_leaf (b3 := b3) (b4 := b4) (hx0.trans (hx1.trans (hx2.trans (hx3.trans hx4)))) HW3.out HW4.out (by have e0 := HZ0.out; have e1 := HZ1.out; have e2 := HZ2.out; have e3 := HS3.out; have e4 := HB3.out; have e5 := HS4.out; have e6 := HB4.out; omega) (by have e0 := HZ0.out; have e1 := HZ1.out; have e2 := HZ2.out; have e3 := HS3.out; have e4 := HB3.out; have e5 := HS4.out; have e6 := HB4.out; omega) (by have e0 := HZ0.out; have e1 := HZ1.out; have e2 := HZ2.out; have e3 := HS3.out; have e4 := HB3.out; have e5 := HS4.out; have e6 := HB4.out; omega) ((hr1.ext (hx2.trans (hx3.trans hx4))).mono (fun k hk _ => by have h1 := hk.1; have h2 := hk.2; have e0 := HZ0.out; have e1 := HZ1.out; have e2 := HZ2.out; have e3 := HS3.out; have e4 := HB3.out; have e5 := HS4.out; have e6 := HB4.out; refine ⟨?_, ?_, ?_⟩ <;> omega)) ((hr2.ext (hx3.trans hx4)).mono (fun k hk _ => by have h1 := hk.1; have h2 := hk.2; have e0 := HZ0.out; have e1 := HZ1.out; have e2 := HZ2.out; have e3 := HS3.out; have e4 := HB3.out; have e5 := HS4.out; have e6 := HB4.out; refine ⟨?_, ?_, ?_⟩ <;> omega))
        · go_simp
          (refine hK.out _ _ (keepS3 ((Ext.refl q2).alloc _) hS) (fun hS => ?_); clear hK K)
          have hs5 : (q2.alloc (.cells #[.slice none 0 0] 36)).heap.size = q2.heap.size + 1 := by simp
          have hw5 : (q2.alloc (.cells #[.slice none 0 0] 36)).heap[q2.heap.size]? = some (.cells #[.slice none 0 0] 36 (0, 0)) := heap_alloc_new _ _
          have hx5 : Ext q2 (q2.alloc (.cells #[.slice none 0 0] 36)) := (Ext.refl _).alloc _
          generalize (q2.alloc (.cells #[.slice none 0 0] 36)) = q5 at hs5 hw5 hx5 hS ⊢
          obtain ⟨b5, hb5⟩ : ∃ b, b = q2.heap.size := ⟨_, rfl⟩
          rw [← hb5] at hw5 hs5 ⊢
          have HS5 := hid hs5
          have HB5 := hid hb5
          clear hs5 hb5
          refine wpAnyT_all (rs := [10]) (by as_aux_lemma => kernel_rfl) (by decide) (AllT.consS rfl (fun K hK => ?_) AllT.nil)
          · go_simp
            (refine hK.out _ _ (keepS3 ((Ext.refl q5).alloc _) hS) (fun hS => ?_); clear hK K)
            have hs6 : (q5.alloc (.cells #[.slice none 0 0] 36)).heap.size = q5.heap.size + 1 := by simp
            have hw6 : (q5.alloc (.cells #[.slice none 0 0] 36)).heap[q5.heap.size]? = some (.cells #[.slice none 0 0] 36 (0, 0)) := heap_alloc_new _ _
            have hx6 : Ext q5 (q5.alloc (.cells #[.slice none 0 0] 36)) := (Ext.refl _).alloc _
            generalize (q5.alloc (.cells #[.slice none 0 0] 36)) = q6 at hs6 hw6 hx6 hS ⊢
            obtain ⟨b6, hb6⟩ : ∃ b, b = q5.heap.size := ⟨_, rfl⟩
            rw [← hb6] at hw6 hs6 ⊢
            have HS6 := hid hs6
            have HB6 := hid hb6
            clear hs6 hb6
            have w3 := ((Below.block (Ext.refl _) _ (by have e0 := HZ0.out; have e1 := HZ1.out; have e2 := HZ2.out; have e3 := HS5.out; have e4 := HB5.out; have e5 := HS6.out; have e6 := HB6.out; omega)).trans hw6)
            have w4 := ((Below.block hx6 _ (by have e0 := HZ0.out; have e1 := HZ1.out; have e2 := HZ2.out; have e3 := HS5.out; have e4 := HB5.out; have e5 := HS6.out; have e6 := HB6.out; omega)).trans hw5)
            have yb6 : q6.cell? ⟨b6, 0, none⟩ = some (.slice none 0 0) := (cell_of_row _ _ 0 _ _ _ w3).trans rfl
            have fb6 := frozen_blk w3 0
            have yb5 : q6.cell? ⟨b5, 0, none⟩ = some (.slice none 0 0) := (cell_of_row _ _ 0 _ _ _ w4).trans rfl
            have fb5 := frozen_blk w4 0
            have hn1 : ¬ b6 = b5 := (by have e0 := HZ0.out; have e1 := HZ1.out; have e2 := HZ2.out; have e3 := HS5.out; have e4 := HB5.out; have e5 := HS6.out; have e6 := HB6.out; omega)
            have hn2 : ¬ b5 = b6 := (by have e0 := HZ0.out; have e1 := HZ1.out; have e2 := HZ2.out; have e3 := HS5.out; have e4 := HB5.out; have e5 := HS6.out; have e6 := HB6.out; omega)
            have HW3 := hid w3
            have HW4 := hid w4
            clear w3 w4
            refine wpAnyT_all (rs := [12]) (by as_aux_lemma => kernel_rfl) (by decide) (AllT.consF rfl rfl (fun K hK => ?_) AllT.nil)
            go_simp
            (refine hK.out _ _ ?_; clear hK K)
            refine wpAnyT_all (rs := [13]) (by as_aux_lemma => kernel_rfl) (by decide) (AllT.consF rfl rfl (fun K hK => ?_) AllT.nil)
            go_simp
            (refine hK.out _ _ ?_; clear hK K)
            refine wpAnyT_done (by as_aux_lemma => kernel_rfl) (NoPanic.normal ?_) _
            go_wp2_with fail
            go_meet
            exact iter_leaf (b3 := b6) (b4 := b5) (hx0.trans (hx1.trans (hx2.trans (hx5.trans hx6)))) HW3.out HW4.out (by have e0 := HZ0.out; have e1 := HZ1.out; have e2 := HZ2.out; have e3 := HS5.out; have e4 := HB5.out; have e5 := HS6.out; have e6 := HB6.out; omega) (by have e0 := HZ0.out; have e1 := HZ1.out; have e2 := HZ2.out; have e3 := HS5.out; have e4 := HB5.out; have e5 := HS6.out; have e6 := HB6.out; omega) (by have e0 := HZ0.out; have e1 := HZ1.out; have e2 := HZ2.out; have e3 := HS5.out; have e4 := HB5.out; have e5 := HS6.out; have e6 := HB6.out; omega) ((hr1.ext (hx2.trans (hx5.trans hx6))).mono (fun k hk _ => by have h1 := hk.1; have h2 := hk.2; have e0 := HZ0.out; have e1 := HZ1.out; have e2 := HZ2.out; have e3 := HS5.out; have e4 := HB5.out; have e5 := HS6.out; have e6 := HB6.out; refine ⟨?_, ?_, ?_⟩ <;> omega)) ((hr2.ext (hx5.trans hx6)).mono (fun k hk _ => by have h1 := hk.1; have h2 := hk.2; have e0 := HZ0.out; have e1 := HZ1.out; have e2 := HZ2.out; have e3 := HS5.out; have e4 := HB5.out; have e5 := HS6.out; have e6 := HB6.out; refine ⟨?_, ?_, ?_⟩ <;> omega))
      · go_simp
        (refine hK.out _ _ (keepS3 ((Ext.refl q1).alloc _) hS) (fun hS => ?_); clear hK K)
        have hs7 : (q1.alloc (.cells #[.slice none 0 0] 36)).heap.size = q1.heap.size + 1 := by simp
        have hw7 : (q1.alloc (.cells #[.slice none 0 0] 36)).heap[q1.heap.size]? = some (.cells #[.slice none 0 0] 36 (0, 0)) := heap_alloc_new _ _
        have hx7 : Ext q1 (q1.alloc (.cells #[.slice none 0 0] 36)) := (Ext.refl _).alloc _
        generalize (q1.alloc (.cells #[.slice none 0 0] 36)) = q7 at hs7 hw7 hx7 hS ⊢
        obtain ⟨b7, hb7⟩ : ∃ b, b = q1.heap.size := ⟨_, rfl⟩
        rw [← hb7] at hw7 hs7 ⊢
        have HS7 := hid hs7
        have HB7 := hid hb7
        clear hs7 hb7
        refine wpAnyT_all (rs := [9, 11]) (by as_aux_lemma => kernel_rfl) (by decide) (AllT.consS rfl (fun K hK => ?_) (AllT.consS rfl (fun K hK => ?_) AllT.nil))
        · go_simp
          go_at_call 55
          refine (CloneB_any q7 (fun _ => True) vl last (HRL.out.ext (hx0.trans (hx1.trans hx7))) (by omega)).mono ?_
          rintro e q8 ⟨v4_8, rfl, ho8, hx8⟩
          obtain ⟨a8, c8, rfl⟩ := ho8.slice
          have hr8 := ho8.rd.mono (S' := fun k => q7.heap.size ≤ k ∧ k < q8.heap.size) (fun k hk _ => by rcases hk with hk | hk; exact hk.elim; exact ho8.lt k hk)
          have HZ8 := hid hx8.size
          (refine hK.out _ _ (keepS3 hx8 hS) (fun hS => ?_); clear hK K)
          refine wpAnyT_all (rs := [11]) (by as_aux_lemma => kernel_rfl) (by decide) (AllT.consS rfl (fun K hK => ?_) AllT.nil)
          · go_simp
            (refine hK.out _ _ (keepS3 ((Ext.refl q8).alloc _) hS) (fun hS => ?_); clear hK K)
            have hs9 : (q8.alloc (.cells #[.slice none 0 0] 36)).heap.size = q8.heap.size + 1 := by simp
            have hw9 : (q8.alloc (.cells #[.slice none 0 0] 36)).heap[q8.heap.size]? = some (.cells #[.slice none 0 0] 36 (0, 0)) := heap_alloc_new _ _
            have hx9 : Ext q8 (q8.alloc (.cells #[.slice none 0 0] 36)) := (Ext.refl _).alloc _
            generalize (q8.alloc (.cells #[.slice none 0 0] 36)) = q9 at hs9 hw9 hx9 hS ⊢
            obtain ⟨b9, hb9⟩ : ∃ b, b = q8.heap.size := ⟨_, rfl⟩
            rw [← hb9] at hw9 hs9 ⊢
            have HS9 := hid hs9
            have HB9 := hid hb9
            clear hs9 hb9
            have w3 := ((Below.block (hx8.trans hx9) _ (by have e0 := HZ0.out; have e1 := HZ1.out; have e2 := HS7.out; have e3 := HB7.out; have e4 := HZ8.out; have e5 := HS9.out; have e6 := HB9.out; omega)).trans hw7)
            have w4 := ((Below.block (Ext.refl _) _ (by have e0 := HZ0.out; have e1 := HZ1.out; have e2 := HS7.out; have e3 := HB7.out; have e4 := HZ8.out; have e5 := HS9.out; have e6 := HB9.out; omega)).trans hw9)
            have yb7 : q9.cell? ⟨b7, 0, none⟩ = some (.slice none 0 0) := (cell_of_row _ _ 0 _ _ _ w3).trans rfl
            have fb7 := frozen_blk w3 0
            have yb9 : q9.cell? ⟨b9, 0, none⟩ = some (.slice none 0 0) := (cell_of_row _ _ 0 _ _ _ w4).trans rfl
            have fb9 := frozen_blk w4 0
            have hn1 : ¬ b7 = b9 := (by have e0 := HZ0.out; have e1 := HZ1.out; have e2 := HS7.out; have e3 := HB7.out; have e4 := HZ8.out; have e5 := HS9.out; have e6 := HB9.out; omega)
            have hn2 : ¬ b9 = b7 := (by have e0 := HZ0.out; have e1 := HZ1.out; have e2 := HS7.out; have e3 := HB7.out; have e4 := HZ8.out; have e5 := HS9.out; have e6 := HB9.out; omega)
            have HW3 := hid w3
            have HW4 := hid w4
            clear w3 w4
            refine wpAnyT_all (rs := [12]) (by as_aux_lemma => kernel_rfl) (by decide) (AllT.consF rfl rfl (fun K hK => ?_) AllT.nil)
            go_simp
            (refine hK.out _ _ ?_; clear hK K)
            refine wpAnyT_all (rs := [13]) (by as_aux_lemma => kernel_rfl) (by decide) (AllT.consF rfl rfl (fun K hK => ?_) AllT.nil)
            go_simp
            (refine hK.out _ _ ?_; clear hK K)
            refine wpAnyT_done (by as_aux_lemma => kernel_rfl) (NoPanic.normal ?_) _
            go_wp2_with fail
            go_meet
            exact iter_leaf (b3 := b7) (b4 := b9) (hx0.trans (hx1.trans (hx7.trans (hx8.trans hx9)))) HW3.out HW4.out (by have e0 := HZ0.out; have e1 := HZ1.out; have e2 := HS7.out; have e3 := HB7.out; have e4 := HZ8.out; have e5 := HS9.out; have e6 := HB9.out; omega) (by have e0 := HZ0.out; have e1 := HZ1.out; have e2 := HS7.out; have e3 := HB7.out; have e4 := HZ8.out; have e5 := HS9.out; have e6 := HB9.out; omega) (by have e0 := HZ0.out; have e1 := HZ1.out; have e2 := HS7.out; have e3 := HB7.out; have e4 := HZ8.out; have e5 := HS9.out; have e6 := HB9.out; omega) ((hr1.ext (hx7.trans (hx8.trans hx9))).mono (fun k hk _ => by have h1 := hk.1; have h2 := hk.2; have e0 := HZ0.out; have e1 := HZ1.out; have e2 := HS7.out; have e3 := HB7.out; have e4 := HZ8.out; have e5 := HS9.out; have e6 := HB9.out; refine ⟨?_, ?_, ?_⟩ <;> omega)) ((hr8.ext hx9).mono (fun k hk _ => by have h1 := hk.1; have h2 := hk.2; have e0 := HZ0.out; have e1 := HZ1.out; have e2 := HS7.out; have e3 := HB7.out; have e4 := HZ8.out; have e5 := HS9.out; have e6 := HB9.out; refine ⟨?_, ?_, ?_⟩ <;> omega))
        · go_simp
          (refine hK.out _ _ (keepS3 ((Ext.refl q7).alloc _) hS) (fun hS => ?_); clear hK K)
          have hs10 : (q7.alloc (.cells #[.slice none 0 0] 36)).heap.size = q7.heap.size + 1 := by simp
          have hw10 : (q7.alloc (.cells #[.slice none 0 0] 36)).heap[q7.heap.size]? = some (.cells #[.slice none 0 0] 36 (0, 0)) := heap_alloc_new _ _
          have hx10 : Ext q7 (q7.alloc (.cells #[.slice none 0 0] 36)) := (Ext.refl _).alloc _
          generalize (q7.alloc (.cells #[.slice none 0 0] 36)) = q10 at hs10 hw10 hx10 hS ⊢
          obtain ⟨b10, hb10⟩ : ∃ b, b = q7.heap.size := ⟨_, rfl⟩
          rw [← hb10] at hw10 hs10 ⊢
          have HS10 := hid hs10
          have HB10 := hid hb10
          clear hs10 hb10
          refine wpAnyT_all (rs := [9]) (by as_aux_lemma => kernel_rfl) (by decide) (AllT.consS rfl (fun K hK => ?_) AllT.nil)
          · go_simp
            go_at_call 55
            refine (CloneB_any q10 (fun _ => True) vl last (HRL.out.ext (hx0.trans (hx1.trans (hx7.trans hx10)))) (by omega)).mono ?_
            rintro e q11 ⟨v4_11, rfl, ho11, hx11⟩
            obtain ⟨a11, c11, rfl⟩ := ho11.slice
            have hr11 := ho11.rd.mono (S' := fun k => q10.heap.size ≤ k ∧ k < q11.heap.size) (fun k hk _ => by rcases hk with hk | hk; exact hk.elim; exact ho11.lt k hk)
            have HZ11 := hid hx11.size
            (refine hK.out _ _ (keepS3 hx11 hS) (fun hS => ?_); clear hK K)
            have w3 := ((Below.block (hx10.trans hx11) _ (by have e0 := HZ0.out; have e1 := HZ1.out; have e2 := HS7.out; have e3 := HB7.out; have e4 := HS10.out; have e5 := HB10.out; have e6 := HZ11.out; omega)).trans hw7)
            have w4 := ((Below.block hx11 _ (by have e0 := HZ0.out; have e1 := HZ1.out; have e2 := HS7.out; have e3 := HB7.out; have e4 := HS10.out; have e5 := HB10.out; have e6 := HZ11.out; omega)).trans hw10)
            have yb7 : q11.cell? ⟨b7, 0, none⟩ = some (.slice none 0 0) := (cell_of_row _ _ 0 _ _ _ w3).trans rfl
            have fb7 := frozen_blk w3 0
            have yb10 : q11.cell? ⟨b10, 0, none⟩ = some (.slice none 0 0) := (cell_of_row _ _ 0 _ _ _ w4).trans rfl
            have fb10 := frozen_blk w4 0
            have hn1 : ¬ b7 = b10 := (by have e0 := HZ0.out; have e1 := HZ1.out; have e2 := HS7.out; have e3 := HB7.out; have e4 := HS10.out; have e5 := HB10.out; have e6 := HZ11.out; omega)
            have hn2 : ¬ b10 = b7 := (by have e0 := HZ0.out; have e1 := HZ1.out; have e2 := HS7.out; have e3 := HB7.out; have e4 := HS10.out; have e5 := HB10.out; have e6 := HZ11.out; omega)
            have HW3 := hid w3
            have HW4 := hid w4
            clear w3 w4
            refine wpAnyT_all (rs := [12]) (by as_aux_lemma => kernel_rfl) (by decide) (AllT.consF rfl rfl (fun K hK => ?_) AllT.nil)
            go_simp
            (refine hK.out _ _ ?_; clear hK K)
            refine wpAnyT_all (rs := [13]) (by as_aux_lemma => kernel_rfl) (by decide) (AllT.consF rfl rfl (fun K hK => ?_) AllT.nil)
            go_simp
            (refine hK.out _ _ ?_; clear hK K)
            refine wpAnyT_done (by as_aux_lemma => kernel_rfl) (NoPanic.normal ?_) _
            go_wp2_with fail
            go_meet
            exact iter_leaf (b3 := b7) (b4 := b10) (hx0.trans (hx1.trans (hx7.trans (hx10.trans hx11)))) HW3.out HW4.out (by have e0 := HZ0.out; have e1 := HZ1.out; have e2 := HS7.out; have e3 := HB7.out; have e4 := HS10.out; have e5 := HB10.out; have e6 := HZ11.out; omega) (by have e0 := HZ0.out; have e1 := HZ1.out; have e2 := HS7.out; have e3 := HB7.out; have e4 := HS10.out; have e5 := HB10.out; have e6 := HZ11.out; omega) (by have e0 := HZ0.out; have e1 := HZ1.out; have e2 := HS7.out; have e3 := HB7.out; have e4 := HS10.out; have e5 := HB10.out; have e6 := HZ11.out; omega) ((hr1.ext (hx7.trans (hx10.trans hx11))).mono (fun k hk _ => by have h1 := hk.1; have h2 := hk.2; have e0 := HZ0.out; have e1 := HZ1.out; have e2 := HS7.out; have e3 := HB7.out; have e4 := HS10.out; have e5 := HB10.out; have e6 := HZ11.out; refine ⟨?_, ?_, ?_⟩ <;> omega)) ((hr11.ext (Ext.refl _)).mono (fun k hk _ => by have h1 := hk.1; have h2 := hk.2; have e0 := HZ0.out; have e1 := HZ1.out; have e2 := HS7.out; have e3 := HB7.out; have e4 := HS10.out; have e5 := HB10.out; have e6 := HZ11.out; refine ⟨?_, ?_, ?_⟩ <;> omega))
      · go_simp
        (refine hK.out _ _ (keepS3 ((Ext.refl q1).alloc _) hS) (fun hS => ?_); clear hK K)
        have hs12 : (q1.alloc (.cells #[.slice none 0 0] 36)).heap.size = q1.heap.size + 1 := by simp
        have hw12 : (q1.alloc (.cells #[.slice none 0 0] 36)).heap[q1.heap.size]? = some (.cells #[.slice none 0 0] 36 (0, 0)) := heap_alloc_new _ _
        have hx12 : Ext q1 (q1.alloc (.cells #[.slice none 0 0] 36)) := (Ext.refl _).alloc _
        generalize (q1.alloc (.cells #[.slice none 0 0] 36)) = q12 at hs12 hw12 hx12 hS ⊢
        obtain ⟨b12, hb12⟩ : ∃ b, b = q1.heap.size := ⟨_, rfl⟩
        rw [← hb12] at hw12 hs12 ⊢
        have HS12 := hid hs12
        have HB12 := hid hb12
        clear hs12 hb12
        refine wpAnyT_all (rs := [9, 10]) (by as_aux_lemma => kernel_rfl) (by decide) (AllT.consS rfl (fun K hK => ?_) (AllT.consS rfl (fun K hK => ?_) AllT.nil))
        · go_simp
          go_at_call 55
          refine (CloneB_any q12 (fun _ => True) vl last (HRL.out.ext (hx0.trans (hx1.trans hx12))) (by omega)).mono ?_
          rintro e q13 ⟨v4_13, rfl, ho13, hx13⟩
          obtain ⟨a13, c13, rfl⟩ := ho13.slice
          have hr13 := ho13.rd.mono (S' := fun k => q12.heap.size ≤ k ∧ k < q13.heap.size) (fun k hk _ => by rcases hk with hk | hk; exact hk.elim; exact ho13.lt k hk)
          have HZ13 := hid hx13.size
          (refine hK.out _ _ (keepS3 hx13 hS) (fun hS => ?_); clear hK K)
          refine wpAnyT_all (rs := [10]) (by as_aux_lemma => kernel_rfl) (by decide) (AllT.consS rfl (fun K hK => ?_) AllT.nil)
          · go_simp
            (refine hK.out _ _ (keepS3 ((Ext.refl q13).alloc _) hS) (fun hS => ?_); clear hK K)
            have hs14 : (q13.alloc (.cells #[.slice none 0 0] 36)).heap.size = q13.heap.size + 1 := by simp
            have hw14 : (q13.alloc (.cells #[.slice none 0 0] 36)).heap[q13.heap.size]? = some (.cells #[.slice none 0 0] 36 (0, 0)) := heap_alloc_new _ _
            have hx14 : Ext q13 (q13.alloc (.cells #[.slice none 0 0] 36)) := (Ext.refl _).alloc _
            generalize (q13.alloc (.cells #[.slice none 0 0] 36)) = q14 at hs14 hw14 hx14 hS ⊢
            obtain ⟨b14, hb14⟩ : ∃ b, b = q13.heap.size := ⟨_, rfl⟩
            rw [← hb14] at hw14 hs14 ⊢
            have HS14 := hid hs14
            have HB14 := hid hb14
            clear hs14 hb14
            have w3 := ((Below.block (Ext.refl _) _ (by have e0 := HZ0.out; have e1 := HZ1.out; have e2 := HS12.out; have e3 := HB12.out; have e4 := HZ13.out; have e5 := HS14.out; have e6 := HB14.out; omega)).trans hw14)
            have w4 := ((Below.block (hx13.trans hx14) _ (by have e0 := HZ0.out; have e1 := HZ1.out; have e2 := HS12.out; have e3 := HB12.out; have e4 := HZ13.out; have e5 := HS14.out; have e6 := HB14.out; omega)).trans hw12)
            have yb14 : q14.cell? ⟨b14, 0, none⟩ = some (.slice none 0 0) := (cell_of_row _ _ 0 _ _ _ w3).trans rfl
            have fb14 := frozen_blk w3 0
            have yb12 : q14.cell? ⟨b12, 0, none⟩ = some (.slice none 0 0) := (cell_of_row _ _ 0 _ _ _ w4).trans rfl
            have fb12 := frozen_blk w4 0
            have hn1 : ¬ b14 = b12 := (by have e0 := HZ0.out; have e1 := HZ1.out; have e2 := HS12.out; have e3 := HB12.out; have e4 := HZ13.out; have e5 := HS14.out; have e6 := HB14.out; omega)
            have hn2 : ¬ b12 = b14 := (by have e0 := HZ0.out; have e1 := HZ1.out; have e2 := HS12.out; have e3 := HB12.out; have e4 := HZ13.out; have e5 := HS14.out; have e6 := HB14.out; omega)
            have HW3 := hid w3
            have HW4 := hid w4
            clear w3 w4
            refine wpAnyT_all (rs := [12]) (by as_aux_lemma => kernel_rfl) (by decide) (AllT.consF rfl rfl (fun K hK => ?_) AllT.nil)
            go_simp
            (refine hK.out _ _ ?_; clear hK K)
            refine wpAnyT_all (rs := [13]) (by as_aux_lemma => kernel_rfl) (by decide) (AllT.consF rfl rfl (fun K hK => ?_) AllT.nil)
            go_simp
            (refine hK.out _ _ ?_; clear hK K)
            refine wpAnyT_done (by as_aux_lemma => kernel_rfl) (NoPanic.normal ?_) _
            go_wp2_with fail
            go_meet
            exact iter_leaf (b3 := b14) (b4 := b12) (hx0.trans (hx1.trans (hx12.trans (hx13.trans hx14)))) HW3.out HW4.out (by have e0 := HZ0.out; have e1 := HZ1.out; have e2 := HS12.out; have e3 := HB12.out; have e4 := HZ13.out; have e5 := HS14.out; have e6 := HB14.out; omega) (by have e0 := HZ0.out; have e1 := HZ1.out; have e2 := HS12.out; have e3 := HB12.out; have e4 := HZ13.out; have e5 := HS14.out; have e6 := HB14.out; omega) (by have e0 := HZ0.out; have e1 := HZ1.out; have e2 := HS12.out; have e3 := HB12.out; have e4 := HZ13.out; have e5 := HS14.out; have e6 := HB14.out; omega) ((hr1.ext (hx12.trans (hx13.trans hx14))).mono (fun k hk _ => by have h1 := hk.1; have h2 := hk.2; have e0 := HZ0.out; have e1 := HZ1.out; have e2 := HS12.out; have e3 := HB12.out; have e4 := HZ13.out; have e5 := HS14.out; have e6 := HB14.out; refine ⟨?_, ?_, ?_⟩ <;> omega)) ((hr13.ext hx14).mono (fun k hk _ => by have h1 := hk.1; have h2 := hk.2; have e0 := HZ0.out; have e1 := HZ1.out; have e2 := HS12.out; have e3 := HB12.out; have e4 := HZ13.out; have e5 := HS14.out; have e6 := HB14.out; refine ⟨?_, ?_, ?_⟩ <;> omega))
        · go_simp
          (refine hK.out _ _ (keepS3 ((Ext.refl q12).alloc _) hS) (fun hS => ?_); clear hK K)
          have hs15 : (q12.alloc (.cells #[.slice none 0 0] 36)).heap.size = q12.heap.size + 1 := by simp
          have hw15 : (q12.alloc (.cells #[.slice none 0 0] 36)).heap[q12.heap.size]? = some (.cells #[.slice none 0 0] 36 (0, 0)) := heap_alloc_new _ _
          have hx15 : Ext q12 (q12.alloc (.cells #[.slice none 0 0] 36)) := (Ext.refl _).alloc _
          generalize (q12.alloc (.cells #[.slice none 0 0] 36)) = q15 at hs15 hw15 hx15 hS ⊢
          obtain ⟨b15, hb15⟩ : ∃ b, b = q12.heap.size := ⟨_, rfl⟩
          rw [← hb15] at hw15 hs15 ⊢
          have HS15 := hid hs15
          have HB15 := hid hb15
          clear hs15 hb15
          refine wpAnyT_all (rs := [9]) (by as_aux_lemma => kernel_rfl) (by decide) (AllT.consS rfl (fun K hK => ?_) AllT.nil)
          · go_simp
            go_at_call 55
            refine (CloneB_any q15 (fun _ => True) vl last (HRL.out.ext (hx0.trans (hx1.trans (hx12.trans hx15)))) (by omega)).mono ?_
            rintro e q16 ⟨v4_16, rfl, ho16, hx16⟩
            obtain ⟨a16, c16, rfl⟩ := ho16.slice
            have hr16 := ho16.rd.mono (S' := fun k => q15.heap.size ≤ k ∧ k < q16.heap.size) (fun k hk _ => by rcases hk with hk | hk; exact hk.elim; exact ho16.lt k hk)
            have HZ16 := hid hx16.size
            (refine hK.out _ _ (keepS3 hx16 hS) (fun hS => ?_); clear hK K)
            have w3 := ((Below.block hx16 _ (by have e0 := HZ0.out; have e1 := HZ1.out; have e2 := HS12.out; have e3 := HB12.out; have e4 := HS15.out; have e5 := HB15.out; have e6 := HZ16.out; omega)).trans hw15)
            have w4 := ((Below.block (hx15.trans hx16) _ (by have e0 := HZ0.out; have e1 := HZ1.out; have e2 := HS12.out; have e3 := HB12.out; have e4 := HS15.out; have e5 := HB15.out; have e6 := HZ16.out; omega)).trans hw12)
            have yb15 : q16.cell? ⟨b15, 0, none⟩ = some (.slice none 0 0) := (cell_of_row _ _ 0 _ _ _ w3).trans rfl
            have fb15 := frozen_blk w3 0
            have yb12 : q16.cell? ⟨b12, 0, none⟩ = some (.slice none 0 0) := (cell_of_row _ _ 0 _ _ _ w4).trans rfl
            have fb12 := frozen_blk w4 0
            have hn1 : ¬ b15 = b12 := (by have e0 := HZ0.out; have e1 := HZ1.out; have e2 := HS12.out; have e3 := HB12.out; have e4 := HS15.out; have e5 := HB15.out; have e6 := HZ16.out; omega)
            have hn2 : ¬ b12 = b15 := (by have e0 := HZ0.out; have e1 := HZ1.out; have e2 := HS12.out; have e3 := HB12.out; have e4 := HS15.out; have e5 := HB15.out; have e6 := HZ16.out; omega)
            have HW3 := hid w3
            have HW4 := hid w4
            clear w3 w4
            refine wpAnyT_all (rs := [12]) (by as_aux_lemma => kernel_rfl) (by decide) (AllT.consF rfl rfl (fun K hK => ?_) AllT.nil)
            go_simp
            (refine hK.out _ _ ?_; clear hK K)
            refine wpAnyT_all (rs := [13]) (by as_aux_lemma => kernel_rfl) (by decide) (AllT.consF rfl rfl (fun K hK => ?_) AllT.nil)
            go_simp
            (refine hK.out _ _ ?_; clear hK K)
            refine wpAnyT_done (by as_aux_lemma => kernel_rfl) (NoPanic.normal ?_) _
            go_wp2_with fail
            go_meet
            exact iter_leaf (b3 := b15) (b4 := b12) (hx0.trans (hx1.trans (hx12.trans (hx15.trans hx16)))) HW3.out HW4.out (by have e0 := HZ0.out; have e1 := HZ1.out; have e2 := HS12.out; have e3 := HB12.out; have e4 := HS15.out; have e5 := HB15.out; have e6 := HZ16.out; omega) (by have e0 := HZ0.out; have e1 := HZ1.out; have e2 := HS12.out; have e3 := HB12.out; have e4 := HS15.out; have e5 := HB15.out; have e6 := HZ16.out; omega) (by have e0 := HZ0.out; have e1 := HZ1.out; have e2 := HS12.out; have e3 := HB12.out; have e4 := HS15.out; have e5 := HB15.out; have e6 := HZ16.out; omega) ((hr1.ext (hx12.trans (hx15.trans hx16))).mono (fun k hk _ => by have h1 := hk.1; have h2 := hk.2; have e0 := HZ0.out; have e1 := HZ1.out; have e2 := HS12.out; have e3 := HB12.out; have e4 := HS15.out; have e5 := HB15.out; have e6 := HZ16.out; refine ⟨?_, ?_, ?_⟩ <;> omega)) ((hr16.ext (Ext.refl _)).mono (fun k hk _ => by have h1 := hk.1; have h2 := hk.2; have e0 := HZ0.out; have e1 := HZ1.out; have e2 := HS12.out; have e3 := HB12.out; have e4 := HS15.out; have e5 := HB15.out; have e6 := HZ16.out; refine ⟨?_, ?_, ?_⟩ <;> omega))
    · go_simp
      (refine hK.out _ _ (keepS3 ((Ext.refl q0).alloc _) hS) (fun hS => ?_); clear hK K)
      have hs17 : (q0.alloc (.cells #[.slice none 0 0] 36)).heap.size = q0.heap.size + 1 := by simp
      have hw17 : (q0.alloc (.cells #[.slice none 0 0] 36)).heap[q0.heap.size]? = some (.cells #[.slice none 0 0] 36 (0, 0)) := heap_alloc_new _ _
      have hx17 : Ext q0 (q0.alloc (.cells #[.slice none 0 0] 36)) := (Ext.refl _).alloc _
      generalize (q0.alloc (.cells #[.slice none 0 0] 36)) = q17 at hs17 hw17 hx17 hS ⊢
      obtain ⟨b17, hb17⟩ : ∃ b, b = q0.heap.size := ⟨_, rfl⟩
      rw [← hb17] at hw17 hs17 ⊢
      have HS17 := hid hs17
      have HB17 := hid hb17
      clear hs17 hb17
      refine wpAnyT_all (rs := [4, 11]) (by as_aux_lemma => kernel_rfl) (by decide) (AllT.consS rfl (fun K hK => ?_) (AllT.consS rfl (fun K hK => ?_) AllT.nil))
      · go_simp
        go_at_call 55
        refine (CloneB_any q17 (fun _ => True) vn now (HRN.out.ext (hx0.trans hx17)) (by omega)).mono ?_
        rintro e q18 ⟨v3_18, rfl, ho18, hx18⟩
        obtain ⟨a18, c18, rfl⟩ := ho18.slice
        have hr18 := ho18.rd.mono (S' := fun k => q17.heap.size ≤ k ∧ k < q18.heap.size) (fun k hk _ => by rcases hk with hk | hk; exact hk.elim; exact ho18.lt k hk)
        have HZ18 := hid hx18.size
        (refine hK.out _ _ (keepS3 hx18 hS) (fun hS => ?_); clear hK K)
        refine wpAnyT_all (rs := [9, 11]) (by as_aux_lemma => kernel_rfl) (by decide) (AllT.consS rfl (fun K hK => ?_) (AllT.consS rfl (fun K hK => ?_) AllT.nil))
        · go_simp
          go_at_call 55
          refine (CloneB_any q18 (fun _ => True) vl last (HRL.out.ext (hx0.trans (hx17.trans hx18))) (by omega)).mono ?_
          rintro e q19 ⟨v4_19, rfl, ho19, hx19⟩
          obtain ⟨a19, c19, rfl⟩ := ho19.slice
          have hr19 := ho19.rd.mono (S' := fun k => q18.heap.size ≤ k ∧ k < q19.heap.size) (fun k hk _ => by rcases hk with hk | hk; exact hk.elim; exact ho19.lt k hk)
          have HZ19 := hid hx19.size
          (refine hK.out _ _ (keepS3 hx19 hS) (fun hS => ?_); clear hK K)
          refine wpAnyT_all (rs := [11]) (by as_aux_lemma => kernel_rfl) (by decide) (AllT.consS rfl (fun K hK => ?_) AllT.nil)
          · go_simp
            (refine hK.out _ _ (keepS3 ((Ext.refl q19).alloc _) hS) (fun hS => ?_); clear hK K)
            have hs20 : (q19.alloc (.cells #[.slice none 0 0] 36)).heap.size = q19.heap.size + 1 := by simp
            have hw20 : (q19.alloc (.cells #[.slice none 0 0] 36)).heap[q19.heap.size]? = some (.cells #[.slice none 0 0] 36 (0, 0)) := heap_alloc_new _ _
            have hx20 : Ext q19 (q19.alloc (.cells #[.slice none 0 0] 36)) := (Ext.refl _).alloc _
            generalize (q19.alloc (.cells #[.slice none 0 0] 36)) = q20 at hs20 hw20 hx20 hS ⊢
            obtain ⟨b20, hb20⟩ : ∃ b, b = q19.heap.size := ⟨_, rfl⟩
            rw [← hb20] at hw20 hs20 ⊢
            have HS20 := hid hs20
            have HB20 := hid hb20
            clear hs20 hb20
            have w3 := ((Below.block (hx18.trans (hx19.trans hx20)) _ (by have e0 := HZ0.out; have e1 := HS17.out; have e2 := HB17.out; have e3 := HZ18.out; have e4 := HZ19.out; have e5 := HS20.out; have e6 := HB20.out; omega)).trans hw17)
            have w4 := ((Below.block (Ext.refl _) _ (by have e0 := HZ0.out; have e1 := HS17.out; have e2 := HB17.out; have e3 := HZ18.out; have e4 := HZ19.out; have e5 := HS20.out; have e6 := HB20.out; omega)).trans hw20)
            have yb17 : q20.cell? ⟨b17, 0, none⟩ = some (.slice none 0 0) := (cell_of_row _ _ 0 _ _ _ w3).trans rfl
            have fb17 := frozen_blk w3 0
            have yb20 : q20.cell? ⟨b20, 0, none⟩ = some (.slice none 0 0) := (cell_of_row _ _ 0 _ _ _ w4).trans rfl
            have fb20 := frozen_blk w4 0
            have hn1 : ¬ b17 = b20 := (by have e0 := HZ0.out; have e1 := HS17.out; have e2 := HB17.out; have e3 := HZ18.out; have e4 := HZ19.out; have e5 := HS20.out; have e6 := HB20.out; omega)
            have hn2 : ¬ b20 = b17 := (by have e0 := HZ0.out; have e1 := HS17.out; have e2 := HB17.out; have e3 := HZ18.out; have e4 := HZ19.out; have e5 := HS20.out; have e6 := HB20.out; omega)
            have HW3 := hid w3
            have HW4 := hid w4
            clear w3 w4
            refine wpAnyT_all (rs := [12]) (by as_aux_lemma => kernel_rfl) (by decide) (AllT.consF rfl rfl (fun K hK => ?_) AllT.nil)
            go_simp
            (refine hK.out _ _ ?_; clear hK K)
            refine wpAnyT_all (rs := [13]) (by as_aux_lemma => kernel_rfl) (by decide) (AllT.consF rfl rfl (fun K hK => ?_) AllT.nil)
            go_simp
            (refine hK.out _ _ ?_; clear hK K)
            refine wpAnyT_done (by as_aux_lemma => kernel_rfl) (NoPanic.normal ?_) _
            go_wp2_with fail
            go_meet
            exact iter_leaf (b3 := b17) (b4 := b20) (hx0.trans (hx17.trans (hx18.trans (hx19.trans hx20)))) HW3.out HW4.out (by have e0 := HZ0.out; have e1 := HS17.out; have e2 := HB17.out; have e3 := HZ18.out; have e4 := HZ19.out; have e5 := HS20.out; have e6 := HB20.out; omega) (by have e0 := HZ0.out; have e1 := HS17.out; have e2 := HB17.out; have e3 := HZ18.out; have e4 := HZ19.out; have e5 := HS20.out; have e6 := HB20.out; omega) (by have e0 := HZ0.out; have e1 := HS17.out; have e2 := HB17.out; have e3 := HZ18.out; have e4 := HZ19.out; have e5 := HS20.out; have e6 := HB20.out; omega) ((hr18.ext (hx19.trans hx20)).mono (fun k hk _ => by have h1 := hk.1; have h2 := hk.2; have e0 := HZ0.out; have e1 := HS17.out; have e2 := HB17.out; have e3 := HZ18.out; have e4 := HZ19.out; have e5 := HS20.out; have e6 := HB20.out; refine ⟨?_, ?_, ?_⟩ <;> omega)) ((hr19.ext hx20).mono (fun k hk _ => by have h1 := hk.1; have h2 := hk.2; have e0 := HZ0.out; have e1 := HS17.out; have e2 := HB17.out; have e3 := HZ18.out; have e4 := HZ19.out; have e5 := HS20.out; have e6 := HB20.out; refine ⟨?_, ?_, ?_⟩ <;> omega))
        · go_simp
          (refine hK.out _ _ (keepS3 ((Ext.refl q18).alloc _) hS) (fun hS => ?_); clear hK K)
          have hs21 : (q18.alloc (.cells #[.slice none 0 0] 36)).heap.size = q18.heap.size + 1 := by simp
          have hw21 : (q18.alloc (.cells #[.slice none 0 0] 36)).heap[q18.heap.size]? = some (.cells #[.slice none 0 0] 36 (0, 0)) := heap_alloc_new _ _
          have hx21 : Ext q18 (q18.alloc (.cells #[.slice none 0 0] 36)) := (Ext.refl _).alloc _
          generalize (q18.alloc (.cells #[.slice none 0 0] 36)) = q21 at hs21 hw21 hx21 hS ⊢
          obtain ⟨b21, hb21⟩ : ∃ b, b = q18.heap.size := ⟨_, rfl⟩
          rw [← hb21] at hw21 hs21 ⊢
          have HS21 := hid hs21
          have HB21 := hid hb21
          clear hs21 hb21
          refine wpAnyT_all (rs := [9]) (by as_aux_lemma => kernel_rfl) (by decide) (AllT.consS rfl (fun K hK => ?_) AllT.nil)
          · go_simp
            go_at_call 55
            refine (CloneB_any q21 (fun _ => True) vl last (HRL.out.ext (hx0.trans (hx17.trans (hx18.trans hx21)))) (by omega)).mono ?_
            rintro e q22 ⟨v4_22, rfl, ho22, hx22⟩
            obtain ⟨a22, c22, rfl⟩ := ho22.slice
            have hr22 := ho22.rd.mono (S' := fun k => q21.heap.size ≤ k ∧ k < q22.heap.size) (fun k hk _ => by rcases hk with hk | hk; exact hk.elim; exact ho22.lt k hk)
            have HZ22 := hid hx22.size
            (refine hK.out _ _ (keepS3 hx22 hS) (fun hS => ?_); clear hK K)
            have w3 := ((Below.block (hx18.trans (hx21.trans hx22)) _ (by have e0 := HZ0.out; have e1 := HS17.out; have e2 := HB17.out; have e3 := HZ18.out; have e4 := HS21.out; have e5 := HB21.out; have e6 := HZ22.out; omega)).trans hw17)
            have w4 := ((Below.block hx22 _ (by have e0 := HZ0.out; have e1 := HS17.out; have e2 := HB17.out; have e3 := HZ18.out; have e4 := HS21.out; have e5 := HB21.out; have e6 := HZ22.out; omega)).trans hw21)
            have yb17 : q22.cell? ⟨b17, 0, none⟩ = some (.slice none 0 0) := (cell_of_row _ _ 0 _ _ _ w3).trans rfl
            have fb17 := frozen_blk w3 0
            have yb21 : q22.cell? ⟨b21, 0, none⟩ = some (.slice none 0 0) := (cell_of_row _ _ 0 _ _ _ w4).trans rfl
            have fb21 := frozen_blk w4 0
            have hn1 : ¬ b17 = b21 := (by have e0 := HZ0.out; have e1 := HS17.out; have e2 := HB17.out; have e3 := HZ18.out; have e4 := HS21.out; have e5 := HB21.out; have e6 := HZ22.out; omega)
            have hn2 : ¬ b21 = b17 := (by have e0 := HZ0.out; have e1 := HS17.out; have e2 := HB17.out; have e3 := HZ18.out; have e4 := HS21.out; have e5 := HB21.out; have e6 := HZ22.out; omega)
            have HW3 := hid w3
            have HW4 := hid w4
            clear w3 w4
            refine wpAnyT_all (rs := [12]) (by as_aux_lemma => kernel_rfl) (by decide) (AllT.consF rfl rfl (fun K hK => ?_) AllT.nil)
            go_simp
            (refine hK.out _ _ ?_; clear hK K)
            refine wpAnyT_all (rs := [13]) (by as_aux_lemma => kernel_rfl) (by decide) (AllT.consF rfl rfl (fun K hK => ?_) AllT.nil)
            go_simp
            (refine hK.out _ _ ?_; clear hK K)
            refine wpAnyT_done (by as_aux_lemma => kernel_rfl) (NoPanic.normal ?_) _
            go_wp2_with fail
            go_meet
            exact iter_leaf (b3 := b17) (b4 := b21) (hx0.trans (hx17.trans (hx18.trans (hx21.trans hx22)))) HW3.out HW4.out (by have e0 := HZ0.out; have e1 := HS17.out; have e2 := HB17.out; have e3 := HZ18.out; have e4 := HS21.out; have e5 := HB21.out; have e6 := HZ22.out; omega) (by have e0 := HZ0.out; have e1 := HS17.out; have e2 := HB17.out; have e3 := HZ18.out; have e4 := HS21.out; have e5 := HB21.out; have e6 := HZ22.out; omega) (by have e0 := HZ0.out; have e1 := HS17.out; have e2 := HB17.out; have e3 := HZ18.out; have e4 := HS21.out; have e5 := HB21.out; have e6 := HZ22.out; omega) ((hr18.ext (hx21.trans hx22)).mono (fun k hk _ => by have h1 := hk.1; have h2 := hk.2; have e0 := HZ0.out; have e1 := HS17.out; have e2 := HB17.out; have e3 := HZ18.out; have e4 := HS21.out; have e5 := HB21.out; have e6 := HZ22.out; refine ⟨?_, ?_, ?_⟩ <;> omega)) ((hr22.ext (Ext.refl _)).mono (fun k hk _ => by have h1 := hk.1; have h2 := hk.2; have e0 := HZ0.out; have e1 := HS17.out; have e2 := HB17.out; have e3 := HZ18.out; have e4 := HS21.out; have e5 := HB21.out; have e6 := HZ22.out; refine ⟨?_, ?_, ?_⟩ <;> omega))
      · go_simp
        (refine hK.out _ _ (keepS3 ((Ext.refl q17).alloc _) hS) (fun hS => ?_); clear hK K)
        have hs23 : (q17.alloc (.cells #[.slice none 0 0] 36)).heap.size = q17.heap.size + 1 := by simp
        have hw23 : (q17.alloc (.cells #[.slice none 0 0] 36)).heap[q17.heap.size]? = some (.cells #[.slice none 0 0] 36 (0, 0)) := heap_alloc_new _ _
        have hx23 : Ext q17 (q17.alloc (.cells #[.slice none 0 0] 36)) := (Ext.refl _).alloc _
        generalize (q17.alloc (.cells #[.slice none 0 0] 36)) = q23 at hs23 hw23 hx23 hS ⊢
        obtain ⟨b23, hb23⟩ : ∃ b, b = q17.heap.size := ⟨_, rfl⟩
        rw [← hb23] at hw23 hs23 ⊢
        have HS23 := hid hs23
        have HB23 := hid hb23
        clear hs23 hb23
        refine wpAnyT_all (rs := [4]) (by as_aux_lemma => kernel_rfl) (by decide) (AllT.consS rfl (fun K hK => ?_) AllT.nil)
        · go_simp
          go_at_call 55
          refine (CloneB_any q23 (fun _ => True) vn now (HRN.out.ext (hx0.trans (hx17.trans hx23))) (by omega)).mono ?_
          rintro e q24 ⟨v3_24, rfl, ho24, hx24⟩
          obtain ⟨a24, c24, rfl⟩ := ho24.slice
          have hr24 := ho24.rd.mono (S' := fun k => q23.heap.size ≤ k ∧ k < q24.heap.size) (fun k hk _ => by rcases hk with hk | hk; exact hk.elim; exact ho24.lt k hk)
          have HZ24 := hid hx24.size
          (refine hK.out _ _ (keepS3 hx24 hS) (fun hS => ?_); clear hK K)
          refine wpAnyT_all (rs := [9]) (by as_aux_lemma => kernel_rfl) (by decide) (AllT.consS rfl (fun K hK => ?_) AllT.nil)
          · go_simp
            go_at_call 55
            refine (CloneB_any q24 (fun _ => True) vl last (HRL.out.ext (hx0.trans (hx17.trans (hx23.trans hx24)))) (by omega)).mono ?_
            rintro e q25 ⟨v4_25, rfl, ho25, hx25⟩
            obtain ⟨a25, c25, rfl⟩ := ho25.slice
            have hr25 := ho25.rd.mono (S' := fun k => q24.heap.size ≤ k ∧ k < q25.heap.size) (fun k hk _ => by rcases hk with hk | hk; exact hk.elim; exact ho25.lt k hk)
            have HZ25 := hid hx25.size
            (refine hK.out _ _ (keepS3 hx25 hS) (fun hS => ?_); clear hK K)
            have w3 := ((Below.block (hx23.trans (hx24.trans hx25)) _ (by have e0 := HZ0.out; have e1 := HS17.out; have e2 := HB17.out; have e3 := HS23.out; have e4 := HB23.out; have e5 := HZ24.out; have e6 := HZ25.out; omega)).trans hw17)
            have w4 := ((Below.block (hx24.trans hx25) _ (by have e0 := HZ0.out; have e1 := HS17.out; have e2 := HB17.out; have e3 := HS23.out; have e4 := HB23.out; have e5 := HZ24.out; have e6 := HZ25.out; omega)).trans hw23)
            have yb17 : q25.cell? ⟨b17, 0, none⟩ = some (.slice none 0 0) := (cell_of_row _ _ 0 _ _ _ w3).trans rfl
            have fb17 := frozen_blk w3 0
            have yb23 : q25.cell? ⟨b23, 0, none⟩ = some (.slice none 0 0) := (cell_of_row _ _ 0 _ _ _ w4).trans rfl
            have fb23 := frozen_blk w4 0
            have hn1 : ¬ b17 = b23 := (by have e0 := HZ0.out; have e1 := HS17.out; have e2 := HB17.out; have e3 := HS23.out; have e4 := HB23.out; have e5 := HZ24.out; have e6 := HZ25.out; omega)
            have hn2 : ¬ b23 = b17 := (by have e0 := HZ0.out; have e1 := HS17.out; have e2 := HB17.out; have e3 := HS23.out; have e4 := HB23.out; have e5 := HZ24.out; have e6 := HZ25.out; omega)
            have HW3 := hid w3
            have HW4 := hid w4
            clear w3 w4
            refine wpAnyT_all (rs := [12]) (by as_aux_lemma => kernel_rfl) (by decide) (AllT.consF rfl rfl (fun K hK => ?_) AllT.nil)
            go_simp
            (refine hK.out _ _ ?_; clear hK K)
            refine wpAnyT_all (rs := [13]) (by as_aux_lemma => kernel_rfl) (by decide) (AllT.consF rfl rfl (fun K hK => ?_) AllT.nil)
            go_simp
            (refine hK.out _ _ ?_; clear hK K)
            refine wpAnyT_done (by as_aux_lemma => kernel_rfl) (NoPanic.normal ?_) _
            go_wp2_with fail
            go_meet
            exact iter_leaf (b3 := b17) (b4 := b23) (hx0.trans (hx17.trans (hx23.trans (hx24.trans hx25)))) HW3.out HW4.out (by have e0 := HZ0.out; have e1 := HS17.out; have e2 := HB17.out; have e3 := HS23.out; have e4 := HB23.out; have e5 := HZ24.out; have e6 := HZ25.out; omega) (by have e0 := HZ0.out; have e1 := HS17.out; have e2 := HB17.out; have e3 := HS23.out; have e4 := HB23.out; have e5 := HZ24.out; have e6 := HZ25.out; omega) (by have e0 := HZ0.out; have e1 := HS17.out; have e2 := HB17.out; have e3 := HS23.out; have e4 := HB23.out; have e5 := HZ24.out; have e6 := HZ25.out; omega) ((hr24.ext hx25).mono (fun k hk _ => by have h1 := hk.1; have h2 := hk.2; have e0 := HZ0.out; have e1 := HS17.out; have e2 := HB17.out; have e3 := HS23.out; have e4 := HB23.out; have e5 := HZ24.out; have e6 := HZ25.out; refine ⟨?_, ?_, ?_⟩ <;> omega)) ((hr25.ext (Ext.refl _)).mono (fun k hk _ => by have h1 := hk.1; have h2 := hk.2; have e0 := HZ0.out; have e1 := HS17.out; have e2 := HB17.out; have e3 := HS23.out; have e4 := HB23.out; have e5 := HZ24.out; have e6 := HZ25.out; refine ⟨?_, ?_, ?_⟩ <;> omega))
    · go_simp
      (refine hK.out _ _ (keepS3 ((Ext.refl q0).alloc _) hS) (fun hS => ?_); clear hK K)
      have hs26 : (q0.alloc (.cells #[.slice none 0 0] 36)).heap.size = q0.heap.size + 1 := by simp
      have hw26 : (q0.alloc (.cells #[.slice none 0 0] 36)).heap[q0.heap.size]? = some (.cells #[.slice none 0 0] 36 (0, 0)) := heap_alloc_new _ _
      have hx26 : Ext q0 (q0.alloc (.cells #[.slice none 0 0] 36)) := (Ext.refl _).alloc _
      generalize (q0.alloc (.cells #[.slice none 0 0] 36)) = q26 at hs26 hw26 hx26 hS ⊢
      obtain ⟨b26, hb26⟩ : ∃ b, b = q0.heap.size := ⟨_, rfl⟩
      rw [← hb26] at hw26 hs26 ⊢
      have HS26 := hid hs26
      have HB26 := hid hb26
      clear hs26 hb26
      refine wpAnyT_all (rs := [4, 10]) (by as_aux_lemma => kernel_rfl) (by decide) (AllT.consS rfl (fun K hK => ?_) (AllT.consS rfl (fun K hK => ?_) AllT.nil))
      · go_simp
        go_at_call 55
        refine (CloneB_any q26 (fun _ => True) vn now (HRN.out.ext (hx0.trans hx26)) (by omega)).mono ?_
        rintro e q27 ⟨v3_27, rfl, ho27, hx27⟩
        obtain ⟨a27, c27, rfl⟩ := ho27.slice
        have hr27 := ho27.rd.mono (S' := fun k => q26.heap.size ≤ k ∧ k < q27.heap.size) (fun k hk _ => by rcases hk with hk | hk; exact hk.elim; exact ho27.lt k hk)
        have HZ27 := hid hx27.size
        (refine hK.out _ _ (keepS3 hx27 hS) (fun hS => ?_); clear hK K)
        refine wpAnyT_all (rs := [9, 10]) (by as_aux_lemma => kernel_rfl) (by decide) (AllT.consS rfl (fun K hK => ?_) (AllT.consS rfl (fun K hK => ?_) AllT.nil))
        · go_simp
          go_at_call 55
          refine (CloneB_any q27 (fun _ => True) vl last (HRL.out.ext (hx0.trans (hx26.trans hx27))) (by omega)).mono ?_
          rintro e q28 ⟨v4_28, rfl, ho28, hx28⟩
          obtain ⟨a28, c28, rfl⟩ := ho28.slice
          have hr28 := ho28.rd.mono (S' := fun k => q27.heap.size ≤ k ∧ k < q28.heap.size) (fun k hk _ => by rcases hk with hk | hk; exact hk.elim; exact ho28.lt k hk)
          have HZ28 := hid hx28.size
          (refine hK.out _ _ (keepS3 hx28 hS) (fun hS => ?_); clear hK K)
          refine wpAnyT_all (rs := [10]) (by as_aux_lemma => kernel_rfl) (by decide) (AllT.consS rfl (fun K hK => ?_) AllT.nil)
          · go_simp
            (refine hK.out _ _ (keepS3 ((Ext.refl q28).alloc _) hS) (fun hS => ?_); clear hK K)
            have hs29 : (q28.alloc (.cells #[.slice none 0 0] 36)).heap.size = q28.heap.size + 1 := by simp
            have hw29 : (q28.alloc (.cells #[.slice none 0 0] 36)).heap[q28.heap.size]? = some (.cells #[.slice none 0 0] 36 (0, 0)) := heap_alloc_new _ _
            have hx29 : Ext q28 (q28.alloc (.cells #[.slice none 0 0] 36)) := (Ext.refl _).alloc _
            generalize (q28.alloc (.cells #[.slice none 0 0] 36)) = q29 at hs29 hw29 hx29 hS ⊢
            obtain ⟨b29, hb29⟩ : ∃ b, b = q28.heap.size := ⟨_, rfl⟩
            rw [← hb29] at hw29 hs29 ⊢
            have HS29 := hid hs29
            have HB29 := hid hb29
            clear hs29 hb29
            have w3 := ((Below.block (Ext.refl _) _ (by have e0 := HZ0.out; have e1 := HS26.out; have e2 := HB26.out; have e3 := HZ27.out; have e4 := HZ28.out; have e5 := HS29.out; have e6 := HB29.out; omega)).trans hw29)
            have w4 := ((Below.block (hx27.trans (hx28.trans hx29)) _ (by have e0 := HZ0.out; have e1 := HS26.out; have e2 := HB26.out; have e3 := HZ27.out; have e4 := HZ28.out; have e5 := HS29.out; have e6 := HB29.out; omega)).trans hw26)
            have yb29 : q29.cell? ⟨b29, 0, none⟩ = some (.slice none 0 0) := (cell_of_row _ _ 0 _ _ _ w3).trans rfl
            have fb29 := frozen_blk w3 0
            have yb26 : q29.cell? ⟨b26, 0, none⟩ = some (.slice none 0 0) := (cell_of_row _ _ 0 _ _ _ w4).trans rfl
            have fb26 := frozen_blk w4 0
            have hn1 : ¬ b29 = b26 := (by have e0 := HZ0.out; have e1 := HS26.out; have e2 := HB26.out; have e3 := HZ27.out; have e4 := HZ28.out; have e5 := HS29.out; have e6 := HB29.out; omega)
            have hn2 : ¬ b26 = b29 := (by have e0 := HZ0.out; have e1 := HS26.out; have e2 := HB26.out; have e3 := HZ27.out; have e4 := HZ28.out; have e5 := HS29.out; have e6 := HB29.out; omega)
            have HW3 := hid w3
            have HW4 := hid w4
            clear w3 w4
            refine wpAnyT_all (rs := [12]) (by as_aux_lemma => kernel_rfl) (by decide) (AllT.consF rfl rfl (fun K hK => ?_) AllT.nil)
            go_simp
            (refine hK.out _ _ ?_; clear hK K)
            refine wpAnyT_all (rs := [13]) (by as_aux_lemma => kernel_rfl) (by decide) (AllT.consF rfl rfl (fun K hK => ?_) AllT.nil)
            go_simp
            (refine hK.out _ _ ?_; clear hK K)
            refine wpAnyT_done (by as_aux_lemma => kernel_rfl) (NoPanic.normal ?_) _
            go_wp2_with fail
            go_meet
            exact iter_leaf (b3 := b29) (b4 := b26) (hx0.trans (hx26.trans (hx27.trans (hx28.trans hx29)))) HW3.out HW4.out (by have e0 := HZ0.out; have e1 := HS26.out; have e2 := HB26.out; have e3 := HZ27.out; have e4 := HZ28.out; have e5 := HS29.out; have e6 := HB29.out; omega) (by have e0 := HZ0.out; have e1 := HS26.out; have e2 := HB26.out; have e3 := HZ27.out; have e4 := HZ28.out; have e5 := HS29.out; have e6 := HB29.out; omega) (by have e0 := HZ0.out; have e1 := HS26.out; have e2 := HB26.out; have e3 := HZ27.out; have e4 := HZ28.out; have e5 := HS29.out; have e6 := HB29.out; omega) ((hr27.ext (hx28.trans hx29)).mono (fun k hk _ => by have h1 := hk.1; have h2 := hk.2; have e0 := HZ0.out; have e1 := HS26.out; have e2 := HB26.out; have e3 := HZ27.out; have e4 := HZ28.out; have e5 := HS29.out; have e6 := HB29.out; refine ⟨?_, ?_, ?_⟩ <;> omega)) ((hr28.ext hx29).mono (fun k hk _ => by have h1 := hk.1; have h2 := hk.2; have e0 := HZ0.out; have e1 := HS26.out; have e2 := HB26.out; have e3 := HZ27.out; have e4 := HZ28.out; have e5 := HS29.out; have e6 := HB29.out; refine ⟨?_, ?_, ?_⟩ <;> omega))
        · go_simp
          (refine hK.out _ _ (keepS3 ((Ext.refl q27).alloc _) hS) (fun hS => ?_); clear hK K)
          have hs30 : (q27.alloc (.cells #[.slice none 0 0] 36)).heap.size = q27.heap.size + 1 := by simp
          have hw30 : (q27.alloc (.cells #[.slice none 0 0] 36)).heap[q27.heap.size]? = some (.cells #[.slice none 0 0] 36 (0, 0)) := heap_alloc_new _ _
          have hx30 : Ext q27 (q27.alloc (.cells #[.slice none 0 0] 36)) := (Ext.refl _).alloc _
          generalize (q27.alloc (.cells #[.slice none 0 0] 36)) = q30 at hs30 hw30 hx30 hS ⊢
          obtain ⟨b30, hb30⟩ : ∃ b, b = q27.heap.size := ⟨_, rfl⟩
          rw [← hb30] at hw30 hs30 ⊢
          have HS30 := hid hs30
          have HB30 := hid hb30
          clear hs30 hb30
          refine wpAnyT_all (rs := [9]) (by as_aux_lemma => kernel_rfl) (by decide) (AllT.consS rfl (fun K hK => ?_) AllT.nil)
          · go_simp
            go_at_call 55
            refine (CloneB_any q30 (fun _ => True) vl last (HRL.out.ext (hx0.trans (hx26.trans (hx27.trans hx30)))) (by omega)).mono ?_
            rintro e q31 ⟨v4_31, rfl, ho31, hx31⟩
            obtain ⟨a31, c31, rfl⟩ := ho31.slice
            have hr31 := ho31.rd.mono (S' := fun k => q30.heap.size ≤ k ∧ k < q31.heap.size) (fun k hk _ => by rcases hk with hk | hk; exact hk.elim; exact ho31.lt k hk)
            have HZ31 := hid hx31.size
            (refine hK.out _ _ (keepS3 hx31 hS) (fun hS => ?_); clear hK K)
            have w3 := ((Below.block hx31 _ (by have e0 := HZ0.out; have e1 := HS26.out; have e2 := HB26.out; have e3 := HZ27.out; have e4 := HS30.out; have e5 := HB30.out; have e6 := HZ31.out; omega)).trans hw30)
            have w4 := ((Below.block (hx27.trans (hx30.trans hx31)) _ (by have e0 := HZ0.out; have e1 := HS26.out; have e2 := HB26.out; have e3 := HZ27.out; have e4 := HS30.out; have e5 := HB30.out; have e6 := HZ31.out; omega)).trans hw26)
            have yb30 : q31.cell? ⟨b30, 0, none⟩ = some (.slice none 0 0) := (cell_of_row _ _ 0 _ _ _ w3).trans rfl
            have fb30 := frozen_blk w3 0
            have yb26 : q31.cell? ⟨b26, 0, none⟩ = some (.slice none 0 0) := (cell_of_row _ _ 0 _ _ _ w4).trans rfl
            have fb26 := frozen_blk w4 0
            have hn1 : ¬ b30 = b26 := (by have e0 := HZ0.out; have e1 := HS26.out; have e2 := HB26.out; have e3 := HZ27.out; have e4 := HS30.out; have e5 := HB30.out; have e6 := HZ31.out; omega)
            have hn2 : ¬ b26 = b30 := (by have e0 := HZ0.out; have e1 := HS26.out; have e2 := HB26.out; have e3 := HZ27.out; have e4 := HS30.out; have e5 := HB30.out; have e6 := HZ31.out; omega)
            have HW3 := hid w3
            have HW4 := hid w4
            clear w3 w4
            refine wpAnyT_all (rs := [12]) (by as_aux_lemma => kernel_rfl) (by decide) (AllT.consF rfl rfl (fun K hK => ?_) AllT.nil)
            go_simp
            (refine hK.out _ _ ?_; clear hK K)
            refine wpAnyT_all (rs := [13]) (by as_aux_lemma => kernel_rfl) (by decide) (AllT.consF rfl rfl (fun K hK => ?_) AllT.nil)
            go_simp
            (refine hK.out _ _ ?_; clear hK K)
            refine wpAnyT_done (by as_aux_lemma => kernel_rfl) (NoPanic.normal ?_) _
            go_wp2_with fail
            go_meet
            exact iter_leaf (b3 := b30) (b4 := b26) (hx0.trans (hx26.trans (hx27.trans (hx30.trans hx31)))) HW3.out HW4.out (by have e0 := HZ0.out; have e1 := HS26.out; have e2 := HB26.out; have e3 := HZ27.out; have e4 := HS30.out; have e5 := HB30.out; have e6 := HZ31.out; omega) (by have e0 := HZ0.out; have e1 := HS26.out; have e2 := HB26.out; have e3 := HZ27.out; have e4 := HS30.out; have e5 := HB30.out; have e6 := HZ31.out; omega) (by have e0 := HZ0.out; have e1 := HS26.out; have e2 := HB26.out; have e3 := HZ27.out; have e4 := HS30.out; have e5 := HB30.out; have e6 := HZ31.out; omega) ((hr27.ext (hx30.trans hx31)).mono (fun k hk _ => by have h1 := hk.1; have h2 := hk.2; have e0 := HZ0.out; have e1 := HS26.out; have e2 := HB26.out; have e3 := HZ27.out; have e4 := HS30.out; have e5 := HB30.out; have e6 := HZ31.out; refine ⟨?_, ?_, ?_⟩ <;> omega)) ((hr31.ext (Ext.refl _)).mono (fun k hk _ => by have h1 := hk.1; have h2 := hk.2; have e0 := HZ0.out; have e1 := HS26.out; have e2 := HB26.out; have e3 := HZ27.out; have e4 := HS30.out; have e5 := HB30.out; have e6 := HZ31.out; refine ⟨?_, ?_, ?_⟩ <;> omega))
      · go_simp
        (refine hK.out _ _ (keepS3 ((Ext.refl q26).alloc _) hS) (fun hS => ?_); clear hK K)
        have hs32 : (q26.alloc (.cells #[.slice none 0 0] 36)).heap.size = q26.heap.size + 1 := by simp
        have hw32 : (q26.alloc (.cells #[.slice none 0 0] 36)).heap[q26.heap.size]? = some (.cells #[.slice none 0 0] 36 (0, 0)) := heap_alloc_new _ _
        have hx32 : Ext q26 (q26.alloc (.cells #[.slice none 0 0] 36)) := (Ext.refl _).alloc _
        generalize (q26.alloc (.cells #[.slice none 0 0] 36)) = q32 at hs32 hw32 hx32 hS ⊢
        obtain ⟨b32, hb32⟩ : ∃ b, b = q26.heap.size := ⟨_, rfl⟩
        rw [← hb32] at hw32 hs32 ⊢
        have HS32 := hid hs32
        have HB32 := hid hb32
        clear hs32 hb32
        refine wpAnyT_all (rs := [4]) (by as_aux_lemma => kernel_rfl) (by decide) (AllT.consS rfl (fun K hK => ?_) AllT.nil)
        · go_simp
          go_at_call 55
          refine (CloneB_any q32 (fun _ => True) vn now (HRN.out.ext (hx0.trans (hx26.trans hx32))) (by omega)).mono ?_
          rintro e q33 ⟨v3_33, rfl, ho33, hx33⟩
          obtain ⟨a33, c33, rfl⟩ := ho33.slice
          have hr33 := ho33.rd.mono (S' := fun k => q32.heap.size ≤ k ∧ k < q33.heap.size) (fun k hk _ => by rcases hk with hk | hk; exact hk.elim; exact ho33.lt k hk)
          have HZ33 := hid hx33.size
          (refine hK.out _ _ (keepS3 hx33 hS) (fun hS => ?_); clear hK K)
          refine wpAnyT_all (rs := [9]) (by as_aux_lemma => kernel_rfl) (by decide) (AllT.consS rfl (fun K hK => ?_) AllT.nil)
          · go_simp
            go_at_call 55
            refine (CloneB_any q33 (fun _ => True) vl last (HRL.out.ext (hx0.trans (hx26.trans (hx32.trans hx33)))) (by omega)).mono ?_
            rintro e q34 ⟨v4_34, rfl, ho34, hx34⟩
            obtain ⟨a34, c34, rfl⟩ := ho34.slice
            have hr34 := ho34.rd.mono (S' := fun k => q33.heap.size ≤ k ∧ k < q34.heap.size) (fun k hk _ => by rcases hk with hk | hk; exact hk.elim; exact ho34.lt k hk)
            have HZ34 := hid hx34.size
            (refine hK.out _ _ (keepS3 hx34 hS) (fun hS => ?_); clear hK K)
            have w3 := ((Below.block (hx33.trans hx34) _ (by have e0 := HZ0.out; have e1 := HS26.out; have e2 := HB26.out; have e3 := HS32.out; have e4 := HB32.out; have e5 := HZ33.out; have e6 := HZ34.out; omega)).trans hw32)
            have w4 := ((Below.block (hx32.trans (hx33.trans hx34)) _ (by have e0 := HZ0.out; have e1 := HS26.out; have e2 := HB26.out; have e3 := HS32.out; have e4 := HB32.out; have e5 := HZ33.out; have e6 := HZ34.out; omega)).trans hw26)
            have yb32 : q34.cell? ⟨b32, 0, none⟩ = some (.slice none 0 0) := (cell_of_row _ _ 0 _ _ _ w3).trans rfl
            have fb32 := frozen_blk w3 0
            have yb26 : q34.cell? ⟨b26, 0, none⟩ = some (.slice none 0 0) := (cell_of_row _ _ 0 _ _ _ w4).trans rfl
            have fb26 := frozen_blk w4 0
            have hn1 : ¬ b32 = b26 := (by have e0 := HZ0.out; have e1 := HS26.out; have e2 := HB26.out; have e3 := HS32.out; have e4 := HB32.out; have e5 := HZ33.out; have e6 := HZ34.out; omega)
            have hn2 : ¬ b26 = b32 := (by have e0 := HZ0.out; have e1 := HS26.out; have e2 := HB26.out; have e3 := HS32.out; have e4 := HB32.out; have e5 := HZ33.out; have e6 := HZ34.out; omega)
            have HW3 := hid w3
            have HW4 := hid w4
            clear w3 w4
            refine wpAnyT_all (rs := [12]) (by as_aux_lemma => kernel_rfl) (by decide) (AllT.consF rfl rfl (fun K hK => ?_) AllT.nil)
            go_simp
            (refine hK.out _ _ ?_; clear hK K)
            refine wpAnyT_all (rs := [13]) (by as_aux_lemma => kernel_rfl) (by decide) (AllT.consF rfl rfl (fun K hK => ?_) AllT.nil)
            go_simp
            (refine hK.out _ _ ?_; clear hK K)
            refine wpAnyT_done (by as_aux_lemma => kernel_rfl) (NoPanic.normal ?_) _
            go_wp2_with fail
            go_meet
            exact iter_leaf (b3 := b32) (b4 := b26) (hx0.trans (hx26.trans (hx32.trans (hx33.trans hx34)))) HW3.out HW4.out (by have e0 := HZ0.out; have e1 := HS26.out; have e2 := HB26.out; have e3 := HS32.out; have e4 := HB32.out; have e5 := HZ33.out; have e6 := HZ34.out; omega) (by have e0 := HZ0.out; have e1 := HS26.out; have e2 := HB26.out; have e3 := HS32.out; have e4 := HB32.out; have e5 := HZ33.out; have e6 := HZ34.out; omega) (by have e0 := HZ0.out; have e1 := HS26.out; have e2 := HB26.out; have e3 := HS32.out; have e4 := HB32.out; have e5 := HZ33.out; have e6 := HZ34.out; omega) ((hr33.ext hx34).mono (fun k hk _ => by have h1 := hk.1; have h2 := hk.2; have e0 := HZ0.out; have e1 := HS26.out; have e2 := HB26.out; have e3 := HS32.out; have e4 := HB32.out; have e5 := HZ33.out; have e6 := HZ34.out; refine ⟨?_, ?_, ?_⟩ <;> omega)) ((hr34.ext (Ext.refl _)).mono (fun k hk _ => by have h1 := hk.1; have h2 := hk.2; have e0 := HZ0.out; have e1 := HS26.out; have e2 := HB26.out; have e3 := HS32.out; have e4 := HB32.out; have e5 := HZ33.out; have e6 := HZ34.out; refine ⟨?_, ?_, ?_⟩ <;> omega))
  case rest =>
    obtain ⟨b3, b4, v3, v4, rfl, rfl, l3, l4, k3, k4, z3, z4, o3, o4, hx⟩ := hcut
    obtain ⟨X, hX⟩ : ∃ X : Nat → Prop, X = fun k => W.heap.size ≤ k ∧ k < wc.heap.size := ⟨_, rfl⟩
    rw [← hX] at o3 o4
    have HXX := hid hX
    have x3 : X b3 := by rw [hX]; exact ⟨l3, k3⟩
    have x4 : X b4 := by rw [hX]; exact ⟨l4, k4⟩
    have HZ3 := hid z3
    have HZ4 := hid z4
    have HO3 := hid o3
    have HO4 := hid o4
    obtain ⟨a3, c3, e3, -, -⟩ := o3.slice
    have HE3 := hid e3
    have HX := hid hx
    have HJ0 := hid (HJ.out _ _ _ _ H0.out (hx.keep _))
    have hsx := hx.size
    clear hX l3 l4 k3 k4 z3 z4 o3 o4 hx e3
    go_wp2_with fail
    go_loopw [6] (fun u6 wr => ∃ (n : Nat) (pre : List (Nat × Nat)) (C' : Blk), u6 = .int .i64 n ∧ n ≤ now.length + 1 ∧ Upto now last n pre ∧ J pre C' wr ∧ (∀ k, C' k → ¬ X k ∧ k < wr.heap.size) ∧ Keep X wc wr) (fun u6 _ => now.length + 1 - (intOf u6).toNat)
    case atStart =>
      refine ⟨0, [], C, rfl, by omega, Upto.zero _ _, HJ0.out, fun k hk => ⟨fun h => ?_, ?_⟩, Keep.refl _ _⟩
      · have := HC.out k hk; rw [HXX.out] at h; have := h.1; omega
      · have := HC.out k hk; omega
    case round =>
      obtain ⟨wo, rfl⟩ : ∃ wo : World, wo = wr := ⟨_, rfl⟩
      obtain ⟨n, pre, C', rfl, hn, hup, hj, hcx, hkx⟩ := hrel
      have HUP := hid hup
      have HJ1 := hid hj
      have HCX := hid hcx
      have HKX := hid hkx
      have y3 := hkx.cell HZ3.out x3
      rw [HE3.out] at y3
      have hsz := hkx.size
      clear hup hj hcx hkx
      by_cases hlt : n < now.length
      · go_wp2_with fail
        obtain ⟨gR, hgR⟩ : ∃ gR, gR = wo.heap.size := ⟨_, rfl⟩
        have hnew := heap_alloc_new wo (.cells #[.int .i64 (n : Int), .int .i64 0] 43)
        have hxa : Ext wo (wo.alloc (.cells #[.int .i64 (n : Int), .int .i64 0] 43)) := (Ext.refl wo).alloc _
        have hsa : (wo.alloc (.cells #[.int .i64 (n : Int), .int .i64 0] 43)).heap.size = wo.heap.size + 1 := by simp
        rw [← hgR] at hnew hsa ⊢
        generalize (wo.alloc (.cells #[.int .i64 (n : Int), .int .i64 0] 43)) = wa at hnew hxa hsa ⊢
        have hgC : ¬ (gR < W.heap.size ∨ C' gR) := by
          rintro (h | h)
          · omega
          · have := (HCX.out gR h).2; omega
        have hgX : ¬ X gR := fun h => by rw [HXX.out] at h; have := h.2; omega
        have HNEW := hid hnew
        have HXA := hid hxa
        have HSA := hid hsa
        have HGC := hid hgC
        have HGX := hid hgX
        have HGR := hid hgR
        clear hnew hxa hsa hgC hgX y3 hgR
        go_loopw [6] (fun u6 w2 => ∃ k : Nat, u6 = .int .i64 ((n + k : Nat) : Int) ∧ n + k ≤ now.length ∧ (∀ j, j < k → freeAt now last (n + j) = true) ∧ w2.heap[gR]? = some (.cells #[.int .i64 (n : Int), .int .i64 (k : Int)] 43 (0, 0)) ∧ J pre C' w2 ∧ Keep X wc w2 ∧ wo.heap.size < w2.heap.size) (fun u6 _ => now.length - (intOf u6).toNat)
        case atStart => exact ⟨0, by simp, by omega, fun j h => by omega, HNEW.out, HJ.out _ _ _ _ HJ1.out (HXA.out.keep _), HKX.out.trans (HXA.out.keep _), by have := HSA.out; have := HGR.out; omega⟩
        case round =>
          obtain ⟨w2, rfl⟩ : ∃ w2 : World, w2 = wr := ⟨_, rfl⟩
          obtain ⟨k, rfl, hnk, hfk, hrow, hj2, hk2, hs2⟩ := hrel
          have HFK := hid hfk
          have HROW := hid hrow
          have HJ2 := hid hj2
          have HK2 := hid hk2
          have q0 : w2.cell? ⟨gR, 0, none⟩ = some (.int .i64 (n : Int)) := (cell_of_row _ _ 0 _ _ _ hrow).trans rfl
          have q1 : w2.cell? ⟨gR, 1, none⟩ = some (.int .i64 (k : Int)) := (cell_of_row _ _ 1 _ _ _ hrow).trans rfl
          have f1 := frozen_blk hrow 1
          clear hfk hrow hj2 hk2
          go_wp2_with fail
          refine (free_any w2 b3 b4 v3 v4 now last X (HK2.out.cell HZ3.out x3) (HK2.out.cell HZ4.out x4) (HO3.out.kept HK2.out) (HO4.out.kept HK2.out) HLN.out (n + k) (by omega) (by omega)).mono ?_
          rintro e w2' ⟨rfl, rfl⟩
          cases hf : freeAt now last (n + k) with
          | true =>
            have hlt2 : n + k < now.length := by
              rcases Nat.lt_or_ge (n + k) now.length with h | h
              · exact h
              · rw [freeAt_len h] at hf; cases hf
            have HF := hid hf
            clear hf
            go_wp2_with fail
            go_roundw
            case rel =>
              refine ⟨k + 1, by go_num, by omega, fun j hj => ?_, (set_blk HROW.out _).trans ?_, HJ.out _ _ _ _ HJ2.out ((Keep.refl _ _).setCell (p := ⟨gR, 1, none⟩) HGC.out _), HK2.out.setCell (p := ⟨gR, 1, none⟩) HGX.out _, by simp only [heap_setCell_sz]; exact hs2⟩
              · rcases Nat.lt_or_ge j k with h | h
                · exact HFK.out j h
                · obtain rfl : j = k := by omega
                  exact HF.out
              · simp
            case measure => simp [intOf]; omega
          | false =>
            have HF := hid hf
            clear hf
            by_cases hk0 : k = 0
            · subst hk0
              have hc2 := hs2
              go_wp2_with fail
              go_roundw
              case rel => exact ⟨n + 1, pre, C', by go_num, by omega, HUP.out.skip HF.out, HJ2.out, fun j hj => ⟨(HCX.out j hj).1, by have := (HCX.out j hj).2; omega⟩, HK2.out⟩
              case measure => simp [intOf]; omega
            · have hkp : (0 : Int) < (k : Int) := by omega
              obtain ⟨hup2, hok⟩ := HUP.out.run (k := k) (by omega) HFK.out HF.out
              obtain ⟨fn, tmps, assign, body, hy, hR⟩ := HY.out pre (n, k) C' w2 HJ2.out hok
              simp only [encR] at hy
              have HUP2 := hid hup2
              have HOK := hid hok
              clear hup2 hok
              go_upto_region 10 with fail
              refine (wpIn_wide (n := dep)).1 ?_
              gi_wp2
              refine ⟨fun h => by simp [Fence.wide] at h, hR.mono ?_⟩
              clear hR hy
              rintro e W' (⟨rfl, C2, hJ3, hg1, hg2⟩ | ⟨rfl, C2, hJx3, hg1, hg2⟩)
              · have HJ3 := hid hJ3
                have HG1 := hid hg1
                have HG2 := hid hg2
                have hsz' := hg1.size
                clear hJ3 hg1 hg2
                gi_wp2
                go_wp2_with fail
                go_roundw
                case rel =>
                  refine ⟨n + k + 1, pre ++ [(n, k)], C2, by go_num, by omega, HUP2.out, HJ3.out, fun j hj => ⟨fun h => ?_, (HG2.out j hj).2⟩, HK2.out.trans (HG1.out.mono fun j hj _ h => (HCX.out j h).1 hj)⟩
                  rcases (HG2.out j hj).1 with h1 | h1
                  · exact (HCX.out j h1).1 h
                  · rw [HXX.out] at h; have := h.2; omega
                case measure => simp [intOf]; omega
              · have HJX3 := hid hJx3
                clear hJx3 hg1 hg2
                gi_wp2
                go_wp2_with fail
                refine bodyPost_ret (results_none rfl _ _ _) rfl ?_
                exact ⟨⟨_, rfl⟩, .inr ⟨pre ++ [(n, k)], C2, HOK.out, HJX3.out⟩⟩
      · have hall := HUP.out.all (by omega)
        have HALL := hid hall
        clear hall
        go_wp2_with fail
        go_end0
        exact ⟨⟨_, rfl⟩, .inl ⟨pre, C', HALL.out, HJ1.out⟩⟩
end Go.Proofs.Ytbpcgfplokkfpaa
