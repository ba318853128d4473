/- codec's reader: field, walked. -/
import Derived.Test.YthobhkmphjnlaaaCur
namespace Go.Proofs.Ythobhkmphjnlaaa
open Go.RowKit
set_option linter.unusedVariables false
set_option linter.unusedSimpArgs false

theorem rFld_nil {st : St} {t : ByteArray} {b : Bool} (h : rText 60 st = (t, ([], b))) : rFld st = ((t, false, 0, ⟨#[]⟩), ([], true)) := by
  unfold rFld; rw [h]
theorem rFld_num {st : St} {t : ByteArray} {b : Bool} {c : UInt8} {r : List UInt8} (h : rText 60 st = (t, (c :: r, b))) (hc : c = 0) : rFld st = ((t, false, unzig (uintF r).1, ⟨#[]⟩), tk (c :: r, b) (1 + (uintF r).2.1) (uintF r).2.2) := by
  unfold rFld; rw [h]; dsimp only; rw [if_pos hc]
theorem rFld_txt {st : St} {t : ByteArray} {b : Bool} {c : UInt8} {r : List UInt8} (h : rText 60 st = (t, (c :: r, b))) (h0 : ¬ c = 0) (hc : c = 1) : rFld st = ((t, true, 0, (rText 200 (r, b)).1), (rText 200 (r, b)).2) := by
  unfold rFld; rw [h]; dsimp only; rw [if_neg h0, if_pos hc]
theorem rFld_bad {st : St} {t : ByteArray} {b : Bool} {c : UInt8} {r : List UInt8} (h : rText 60 st = (t, (c :: r, b))) (h0 : ¬ c = 0) (h1 : ¬ c = 1) : rFld st = ((t, false, 0, ⟨#[]⟩), (c :: r, true)) := by
  unfold rFld; rw [h]; dsimp only; rw [if_neg h0, if_neg h1]
theorem CurT.cells {T : TypeId} {w : World} {g B : Nat} {st : St} (h : CurT T w g B st) : ∃ a cap, w.cell? ⟨g, 0, none⟩ = some (.slice a st.1.length cap) ∧ RdB w (.slice a st.1.length cap) st.1 ∧ st.1.length ≤ cap ∧ cap ≤ 9223372036854775807 := by
  obtain ⟨v, h1, h2, h3, h4⟩ := h
  obtain ⟨a, cap, rfl, hc1, hc2, _⟩ := id h2
  exact ⟨a, cap, by rw [cell_of_row _ _ _ _ _ _ h1]; rfl, h2, by simpa using hc1, by unfold maxLen at hc2; omega⟩
theorem RdB.first {w : World} {a : Option Addr} {n cap : Nat} {c : UInt8} {r : List UInt8} (h : RdB w (.slice a n cap) (c :: r)) : ∃ g o, a = some ⟨g, o, none⟩ ∧ g < w.heap.size ∧ w.cell? ⟨g, o, none⟩ = some (.int .u8 (c.toNat : Int)) := by
  obtain ⟨a', cap', e, _, _, _, h4⟩ := h
  simp only [Value.slice.injEq] at e
  obtain ⟨rfl, -, -⟩ := e
  obtain ⟨g, o, rfl, hg, hc⟩ := h4 (by simp)
  refine ⟨g, o, rfl, hg, ?_⟩
  have := hc 0 (by simp)
  rw [Nat.add_zero] at this
  rw [this]
  simp [bvs, bv]
theorem CurT.setBad {T : TypeId} {w : World} {g B : Nat} {st : St} (h : CurT T w g B st) : CurT T (w.setCell ⟨g, 1, none⟩ (.bool true)) g B (st.1, true) := by
  obtain ⟨v, h1, h2, h3, h4⟩ := h
  exact ⟨v, set_blk h1 _, h2.kept ((Keep.refl (fun k => k ≠ g) w).setCell (by simp) _) (fun hn k hk => by have := h3 hn k hk; omega), h3, h4⟩

theorem keep_below2 {S : Nat → Prop} {a b c : World} {B : Nat} (h : Keep S a b) (k : Below B b c) (hB : ∀ x, S x → x < a.heap.size → x < B) : Keep S a c :=
  ⟨k.os.trans h.os, k.tape.trans h.tape, k.output.trans h.output, Nat.le_trans h.size k.size, fun x hx hl => (k.block x (hB x hx hl)).trans (h.block x hx hl)⟩
theorem below_four {w : World} {g : Nat} {v0 v1 v2 v3 : Value} : Below g w ((((w.setCell ⟨g, 0, none⟩ v0).setCell ⟨g, 1, none⟩ v1).setCell ⟨g, 2, none⟩ v2).setCell ⟨g, 3, none⟩ v3) :=
  ((((Below.refl g w).setCell (Nat.le_refl _) _).setCell (Nat.le_refl _) _).setCell (Nat.le_refl _) _).setCell (Nat.le_refl _) _
theorem four_cells {w : World} {g : Nat} {a b c d v0 v1 v2 v3 : Value} {t : TypeId} (h : w.heap[g]? = some (.cells #[a, b, c, d] t (0, 0))) :
    (((((w.setCell ⟨g, 0, none⟩ v0).setCell ⟨g, 1, none⟩ v1).setCell ⟨g, 2, none⟩ v2).setCell ⟨g, 3, none⟩ v3).cell? ⟨g, 0, none⟩ = some v0) ∧
    (((((w.setCell ⟨g, 0, none⟩ v0).setCell ⟨g, 1, none⟩ v1).setCell ⟨g, 2, none⟩ v2).setCell ⟨g, 3, none⟩ v3).cell? ⟨g, 1, none⟩ = some v1) ∧
    (((((w.setCell ⟨g, 0, none⟩ v0).setCell ⟨g, 1, none⟩ v1).setCell ⟨g, 2, none⟩ v2).setCell ⟨g, 3, none⟩ v3).cell? ⟨g, 2, none⟩ = some v2) ∧
    (((((w.setCell ⟨g, 0, none⟩ v0).setCell ⟨g, 1, none⟩ v1).setCell ⟨g, 2, none⟩ v2).setCell ⟨g, 3, none⟩ v3).cell? ⟨g, 3, none⟩ = some v3) := by
  have hr := set_blk (o := 3) (set_blk (o := 2) (set_blk (o := 1) (set_blk (o := 0) h v0) v1) v2) v3
  exact ⟨(cell_of_row _ _ _ _ _ _ hr).trans rfl, (cell_of_row _ _ _ _ _ _ hr).trans rfl, (cell_of_row _ _ _ _ _ _ hr).trans rfl, (cell_of_row _ _ _ _ _ _ hr).trans rfl⟩
theorem keep_four {S : Nat → Prop} {a w : World} {g : Nat} {v0 v1 v2 v3 : Value} (h : Keep S a w) (hg : ¬ S g) : Keep S a ((((w.setCell ⟨g, 0, none⟩ v0).setCell ⟨g, 1, none⟩ v1).setCell ⟨g, 2, none⟩ v2).setCell ⟨g, 3, none⟩ v3) :=
  (((h.setCell hg _).setCell hg _).setCell hg _).setCell hg _

def FldEnd (w : World) (g B : Nat) (st : St) (e : Ending) (w' : World) : Prop :=
  e = .returned (.agg #[.string (rFld st).1.1, .bool (rFld st).1.2.1, .int .i64 (rFld st).1.2.2.1, .string (rFld st).1.2.2.2]) ∧ CurC w' g B (rFld st).2 ∧ Keep (fun k => k ≠ g) w w'

set_option maxRecDepth 100000 in
set_option maxHeartbeats 4000000 in
theorem field_any (w : World) (g B : Nat) (st : St) (h : CurC w g B st) (hl : st.1.length ≤ 9223372036854775807) :
    Calls Try.prog 65 #[.pointer (some ⟨g, 0, none⟩)] w (FldEnd w g B st) := by
  have H := hid h
  have hgw := h.lt
  have hxa : Ext w (w.alloc (.cells #[.string .empty, .bool false, .int .i64 0, .string .empty] 108)) := (Ext.refl w).alloc _
  have HXA := hid hxa
  obtain ⟨T, HT⟩ : ∃ T, Hid (rText ((60 : Nat) : Int) st = T) := ⟨_, hid rfl⟩
  obtain ⟨t, l1, b1⟩ := T
  have hl1 : l1.length ≤ 9223372036854775807 := by
    have h1 := HT.out
    unfold rText tk at h1
    simp only [Prod.mk.injEq] at h1
    have h2 := h1.2
    split at h2
    · simp only [Prod.mk.injEq] at h2; rw [← h2.1, List.length_drop]; omega
    · simp only [Prod.mk.injEq] at h2; rw [← h2.1]; simp
  clear h hxa
  cases l1 with
  | nil =>
    have HF := hid (rFld_nil HT.out)
    go_enter Try.func65, Try.ntmps65
    go_wp2_with fail
    refine (text_any _ g B st 60 (H.out.ext HXA.out) (by omega) hl).mono ?_
    rw [HT.out]
    rintro en w1 ⟨rfl, HC, hk⟩
    dsimp only at HC
    obtain ⟨a, cap, c0, hr, hc1, hc2⟩ := HC.cells
    have c1 := HC.bad
    dsimp only at c0 hc1 c1 hr
    obtain ⟨vv, hb0, -⟩ := id HC
    dsimp only at hb0
    have hsz : w.heap.size < w1.heap.size := by have := hk.size; simp at this; omega
    have hgr : w1.heap[w.heap.size]? = some (.cells #[.string .empty, .bool false, .int .i64 0, .string .empty] 108 (0, 0)) := by rw [hk.block w.heap.size (by show w.heap.size ≠ g; omega) (by simp)]; exact heap_alloc_new _ _
    have hxf : Ext w1 (w1.alloc (.cells #[.string t, .bool false, .int .i64 0, .string ⟨#[]⟩] 108)) := (Ext.refl w1).alloc _
    have hgr2 : (w1.alloc (.cells #[.string t, .bool false, .int .i64 0, .string ⟨#[]⟩] 108)).heap[w.heap.size]? = _ := (Below.block hxf w.heap.size hsz).trans hgr
    have hg2 : (w1.alloc (.cells #[.string t, .bool false, .int .i64 0, .string ⟨#[]⟩] 108)).heap[g]? = _ := (Below.block hxf g (by omega)).trans hb0
    have r0 : (w1.alloc (.cells #[.string t, .bool false, .int .i64 0, .string ⟨#[]⟩] 108)).cell? ⟨w.heap.size, 0, none⟩ = some (.string .empty) := by rw [cell_of_row _ _ _ _ _ _ hgr2]; rfl
    have r1 : (w1.alloc (.cells #[.string t, .bool false, .int .i64 0, .string ⟨#[]⟩] 108)).cell? ⟨w.heap.size, 1, none⟩ = some (.bool false) := by rw [cell_of_row _ _ _ _ _ _ hgr2]; rfl
    have r2 : (w1.alloc (.cells #[.string t, .bool false, .int .i64 0, .string ⟨#[]⟩] 108)).cell? ⟨w.heap.size, 2, none⟩ = some (.int .i64 0) := by rw [cell_of_row _ _ _ _ _ _ hgr2]; rfl
    have r3 : (w1.alloc (.cells #[.string t, .bool false, .int .i64 0, .string ⟨#[]⟩] 108)).cell? ⟨w.heap.size, 3, none⟩ = some (.string .empty) := by rw [cell_of_row _ _ _ _ _ _ hgr2]; rfl
    have fr0 := frozen_blk hgr2 0
    have fr1 := frozen_blk hgr2 1
    have fr2 := frozen_blk hgr2 2
    have fr3 := frozen_blk hgr2 3
    have e0 := hxf.cellS c0
    have e1 := hxf.cellS c1
    have fg0 := frozen_blk hg2 0
    have fg1 := frozen_blk hg2 1
    have n1 : ¬ w1.heap.size = w.heap.size := by omega
    have n2 : ¬ w.heap.size = w1.heap.size := by omega
    have n3 : ¬ g = w.heap.size := by omega
    have n4 : ¬ w.heap.size = g := by omega
    have n5 : ¬ g = w1.heap.size := by omega
    have n6 : ¬ w1.heap.size = g := by omega
    have HCW := hid (HC.ext hxf)
    have HKW := hid (show Keep (fun k => k ≠ g) w w1 from (HXA.out.keep _).trans hk)
    have HGR := hid hgr2
    have HG2 := hid hg2
    have HR := hid hr
    have HGR1 := hid hgr
    have HC1 := hid HC
    clear HC hk hb0 hgr hgr2 hg2 hxf hr c0 c1
    go_wp2_with fail
    have HGX := hid (show (((w1.alloc (.cells #[.string t, .bool false, .int .i64 0, .string ⟨#[]⟩] 108))).setCell ⟨g, 1, none⟩ (.bool true)).heap[w.heap.size]? = _ from (Below.heap_setCell _ _ _ _ (by show w.heap.size ≠ g; omega)).trans HGR.out)
    obtain ⟨q0, q1, q2, q3⟩ := four_cells (v0 := .string t) (v1 := .bool false) (v2 := .int .i64 0) (v3 := .string ⟨#[]⟩) HGX.out
    refine bodyPost_ret (v := .agg #[.string t, .bool false, .int .i64 0, .string ⟨#[]⟩]) (by simp [results, Try.results65, go_sem, q0, q1, q2, q3]) rfl ?_
    refine ⟨by rw [HF.out], ?_, keep_below2 ((HKW.out.alloc _).setCell (by simp) _) below_four (fun x hx hl => hl)⟩
    rw [HF.out]
    exact (CurT.setBad HCW.out).keep (keep_four (Keep.refl (fun k => k ≠ w.heap.size) _) (by simp)) (by omega) (fun k hk => by have := HCW.out; obtain ⟨_, _, _, _, h5⟩ := this; omega)
  | cons c r =>
    have hl1' : r.length + 1 ≤ 9223372036854775807 := by simpa using hl1
    by_cases hc0 : c = 0
    · subst hc0
      have HF := hid (rFld_num HT.out rfl)
      have hf := uintF_facts r
      obtain ⟨U, HU⟩ : ∃ U, Hid (uintF r = U) := ⟨_, hid rfl⟩
      rw [HU.out] at hf HF
      obtain ⟨u, k, er⟩ := U
      dsimp only at hf HF
      obtain ⟨n, hn⟩ : ∃ n, unzig u = n := ⟨_, rfl⟩
      have HNN := hid hn
      rw [hn] at HF
      clear hn
      go_enter Try.func65, Try.ntmps65
      go_wp2_with fail
      refine (text_any _ g B st 60 (H.out.ext HXA.out) (by omega) hl).mono ?_
      rw [HT.out]
      rintro en w1 ⟨rfl, HC, hk⟩
      dsimp only at HC
      obtain ⟨a, cap, c0, hr, hc1, hc2⟩ := HC.cells
      have c1 := HC.bad
      dsimp only at c0 hc1 c1 hr
      obtain ⟨vv, hb0, -⟩ := id HC
      dsimp only at hb0
      have hsz : w.heap.size < w1.heap.size := by have := hk.size; simp at this; omega
      have hgr : w1.heap[w.heap.size]? = some (.cells #[.string .empty, .bool false, .int .i64 0, .string .empty] 108 (0, 0)) := by rw [hk.block w.heap.size (by show w.heap.size ≠ g; omega) (by simp)]; exact heap_alloc_new _ _
      have hxf : Ext w1 (w1.alloc (.cells #[.string t, .bool false, .int .i64 0, .string ⟨#[]⟩] 108)) := (Ext.refl w1).alloc _
      have hgr2 : (w1.alloc (.cells #[.string t, .bool false, .int .i64 0, .string ⟨#[]⟩] 108)).heap[w.heap.size]? = _ := (Below.block hxf w.heap.size hsz).trans hgr
      have hg2 : (w1.alloc (.cells #[.string t, .bool false, .int .i64 0, .string ⟨#[]⟩] 108)).heap[g]? = _ := (Below.block hxf g (by omega)).trans hb0
      have r0 : (w1.alloc (.cells #[.string t, .bool false, .int .i64 0, .string ⟨#[]⟩] 108)).cell? ⟨w.heap.size, 0, none⟩ = some (.string .empty) := by rw [cell_of_row _ _ _ _ _ _ hgr2]; rfl
      have r1 : (w1.alloc (.cells #[.string t, .bool false, .int .i64 0, .string ⟨#[]⟩] 108)).cell? ⟨w.heap.size, 1, none⟩ = some (.bool false) := by rw [cell_of_row _ _ _ _ _ _ hgr2]; rfl
      have r2 : (w1.alloc (.cells #[.string t, .bool false, .int .i64 0, .string ⟨#[]⟩] 108)).cell? ⟨w.heap.size, 2, none⟩ = some (.int .i64 0) := by rw [cell_of_row _ _ _ _ _ _ hgr2]; rfl
      have r3 : (w1.alloc (.cells #[.string t, .bool false, .int .i64 0, .string ⟨#[]⟩] 108)).cell? ⟨w.heap.size, 3, none⟩ = some (.string .empty) := by rw [cell_of_row _ _ _ _ _ _ hgr2]; rfl
      have fr0 := frozen_blk hgr2 0
      have fr1 := frozen_blk hgr2 1
      have fr2 := frozen_blk hgr2 2
      have fr3 := frozen_blk hgr2 3
      have e0 := hxf.cellS c0
      have e1 := hxf.cellS c1
      have fg0 := frozen_blk hg2 0
      have fg1 := frozen_blk hg2 1
      have n1 : ¬ w1.heap.size = w.heap.size := by omega
      have n2 : ¬ w.heap.size = w1.heap.size := by omega
      have n3 : ¬ g = w.heap.size := by omega
      have n4 : ¬ w.heap.size = g := by omega
      have n5 : ¬ g = w1.heap.size := by omega
      have n6 : ¬ w1.heap.size = g := by omega
      have HCW := hid (HC.ext hxf)
      have HKW := hid (show Keep (fun k => k ≠ g) w w1 from (HXA.out.keep _).trans hk)
      have HGR := hid hgr2
      have HG2 := hid hg2
      have HR := hid hr
      have HGR1 := hid hgr
      have HC1 := hid HC
      clear HC hk hb0 hgr hgr2 hg2 hxf hr c0 c1
      obtain ⟨ga, oa, rfl, hga, cb⟩ := RdB.first HR.out
      have cb1 := ((Ext.refl w1).alloc (.cells #[.string t, .bool false, .int .i64 0, .string ⟨#[]⟩] 108)).cellS cb
      have hlc : ((0 : UInt8) :: r).length = r.length + 1 := by simp
      have HGF := hid (show (w1.alloc (.cells #[.string t, .bool false, .int .i64 0, .string ⟨#[]⟩] 108)).heap[w1.heap.size]? = some (.cells #[.string t, .bool false, .int .i64 0, .string ⟨#[]⟩] 108 (0, 0)) from heap_alloc_new _ _)
      have HLC := hid hlc
      clear cb hlc
      have hd := HR.out.drop 1 (by have := HLC.out; omega)
      rw [show ((0 : UInt8) :: r).drop 1 = r from rfl] at hd
      have HD := hid (hd.ext ((Ext.refl w1).alloc (.cells #[.string t, .bool false, .int .i64 0, .string ⟨#[]⟩] 108)))
      clear hd
      rw [HLC.out] at e0
      go_wp2_with (first | ((with_reducible refine at_slice ?_); go_must (refine wl_slice_l rfl rfl Try.underlying54 sizeU8 rfl rfl 1 rfl ?_ ?_; omega)) | (go_at_call 49; go_must (refine (Int_any _ _ r (by have := HD.out; rw [HLC.out] at this; exact this)).mono ?_; rw [HU.out]; dsimp only; rw [HNN.out]; rintro e w' ⟨rfl, rfl⟩)))
      clear e0 e1 cb1 r0 r1 r2 r3 fr0 fr1 fr2 fr3 fg0 fg1
      rw [show (1 + (k : Int)) = ((1 + k : Nat) : Int) by omega]
      have hc5 : CurC (w1.alloc (.cells #[.string t, .bool false, .int .i64 n, .string ⟨#[]⟩] 108)) g B ((0 : UInt8) :: r, b1) := HC1.out.ext ((Ext.refl w1).alloc _)
      refine (take_any _ g B ((0 : UInt8) :: r, b1) (1 + k) er hc5 (fun _ => by show 1 + k ≤ ((0 : UInt8) :: r).length; have := HLC.out; omega) (by omega) (by omega)).mono ?_
      rintro en w6 ⟨rfl, HC6, hk6⟩
      have hgf6 : w6.heap[w1.heap.size]? = some (.cells #[.string t, .bool false, .int .i64 n, .string ⟨#[]⟩] 108 (0, 0)) := (hk6.block _ (by show w1.heap.size ≠ g; omega) (by simp)).trans (heap_alloc_new _ _)
      have hgr6 : w6.heap[w.heap.size]? = _ := (hk6.block _ (by show w.heap.size ≠ g; omega) (by simp; omega)).trans ((Below.block ((Ext.refl w1).alloc _) w.heap.size hsz).trans HGR1.out)
      have y0 : w6.cell? ⟨w1.heap.size, 0, none⟩ = some (.string t) := (cell_of_row _ _ _ _ _ _ hgf6).trans rfl
      have y1 : w6.cell? ⟨w1.heap.size, 1, none⟩ = some (.bool false) := (cell_of_row _ _ _ _ _ _ hgf6).trans rfl
      have y2 : w6.cell? ⟨w1.heap.size, 2, none⟩ = some (.int .i64 n) := (cell_of_row _ _ _ _ _ _ hgf6).trans rfl
      have y3 : w6.cell? ⟨w1.heap.size, 3, none⟩ = some (.string ⟨#[]⟩) := (cell_of_row _ _ _ _ _ _ hgf6).trans rfl
      have z0 : w6.cell? ⟨w.heap.size, 0, none⟩ = some (.string .empty) := (cell_of_row _ _ _ _ _ _ hgr6).trans rfl
      have z1 : w6.cell? ⟨w.heap.size, 1, none⟩ = some (.bool false) := (cell_of_row _ _ _ _ _ _ hgr6).trans rfl
      have z2 : w6.cell? ⟨w.heap.size, 2, none⟩ = some (.int .i64 0) := (cell_of_row _ _ _ _ _ _ hgr6).trans rfl
      have z3 : w6.cell? ⟨w.heap.size, 3, none⟩ = some (.string .empty) := (cell_of_row _ _ _ _ _ _ hgr6).trans rfl
      have gr0 := frozen_blk hgr6 0
      have gr1 := frozen_blk hgr6 1
      have gr2 := frozen_blk hgr6 2
      have gr3 := frozen_blk hgr6 3
      have gf0 := frozen_blk hgf6 0
      have gf1 := frozen_blk hgf6 1
      have gf3 := frozen_blk hgf6 3
      go_wp2_with fail
      have HGX := hid hgr6
      obtain ⟨q0, q1, q2, q3⟩ := four_cells (v0 := .string t) (v1 := .bool false) (v2 := .int .i64 n) (v3 := .string ⟨#[]⟩) HGX.out
      refine bodyPost_ret (v := .agg #[.string t, .bool false, .int .i64 n, .string ⟨#[]⟩]) (by simp [results, Try.results65, go_sem, q0, q1, q2, q3]) rfl ?_
      refine ⟨by rw [HF.out], ?_, keep_below2 ((HKW.out.alloc _).trans hk6) below_four (fun x hx hl => hl)⟩
      rw [HF.out]
      exact (HC6).keep (keep_four (Keep.refl (fun k => k ≠ w.heap.size) _) (by simp)) (by omega) (fun k hk => by have := HCW.out; obtain ⟨_, _, _, _, h5⟩ := this; omega)
    · by_cases hc1 : c = 1
      · subst hc1
        have HF := hid (rFld_txt HT.out hc0 rfl)
        obtain ⟨Z, HZ⟩ : ∃ Z, Hid (rText ((200 : Nat) : Int) (r, b1) = Z) := ⟨_, hid rfl⟩
        rw [show rText 200 (r, b1) = Z from HZ.out] at HF
        obtain ⟨s2, st2⟩ := Z
        dsimp only at HF
        go_enter Try.func65, Try.ntmps65
        go_wp2_with fail
        refine (text_any _ g B st 60 (H.out.ext HXA.out) (by omega) hl).mono ?_
        rw [HT.out]
        rintro en w1 ⟨rfl, HC, hk⟩
        dsimp only at HC
        obtain ⟨a, cap, c0, hr, hc1, hc2⟩ := HC.cells
        have c1 := HC.bad
        dsimp only at c0 hc1 c1 hr
        obtain ⟨vv, hb0, -⟩ := id HC
        dsimp only at hb0
        have hsz : w.heap.size < w1.heap.size := by have := hk.size; simp at this; omega
        have hgr : w1.heap[w.heap.size]? = some (.cells #[.string .empty, .bool false, .int .i64 0, .string .empty] 108 (0, 0)) := by rw [hk.block w.heap.size (by show w.heap.size ≠ g; omega) (by simp)]; exact heap_alloc_new _ _
        have hxf : Ext w1 (w1.alloc (.cells #[.string t, .bool false, .int .i64 0, .string ⟨#[]⟩] 108)) := (Ext.refl w1).alloc _
        have hgr2 : (w1.alloc (.cells #[.string t, .bool false, .int .i64 0, .string ⟨#[]⟩] 108)).heap[w.heap.size]? = _ := (Below.block hxf w.heap.size hsz).trans hgr
        have hg2 : (w1.alloc (.cells #[.string t, .bool false, .int .i64 0, .string ⟨#[]⟩] 108)).heap[g]? = _ := (Below.block hxf g (by omega)).trans hb0
        have r0 : (w1.alloc (.cells #[.string t, .bool false, .int .i64 0, .string ⟨#[]⟩] 108)).cell? ⟨w.heap.size, 0, none⟩ = some (.string .empty) := by rw [cell_of_row _ _ _ _ _ _ hgr2]; rfl
        have r1 : (w1.alloc (.cells #[.string t, .bool false, .int .i64 0, .string ⟨#[]⟩] 108)).cell? ⟨w.heap.size, 1, none⟩ = some (.bool false) := by rw [cell_of_row _ _ _ _ _ _ hgr2]; rfl
        have r2 : (w1.alloc (.cells #[.string t, .bool false, .int .i64 0, .string ⟨#[]⟩] 108)).cell? ⟨w.heap.size, 2, none⟩ = some (.int .i64 0) := by rw [cell_of_row _ _ _ _ _ _ hgr2]; rfl
        have r3 : (w1.alloc (.cells #[.string t, .bool false, .int .i64 0, .string ⟨#[]⟩] 108)).cell? ⟨w.heap.size, 3, none⟩ = some (.string .empty) := by rw [cell_of_row _ _ _ _ _ _ hgr2]; rfl
        have fr0 := frozen_blk hgr2 0
        have fr1 := frozen_blk hgr2 1
        have fr2 := frozen_blk hgr2 2
        have fr3 := frozen_blk hgr2 3
        have e0 := hxf.cellS c0
        have e1 := hxf.cellS c1
        have fg0 := frozen_blk hg2 0
        have fg1 := frozen_blk hg2 1
        have n1 : ¬ w1.heap.size = w.heap.size := by omega
        have n2 : ¬ w.heap.size = w1.heap.size := by omega
        have n3 : ¬ g = w.heap.size := by omega
        have n4 : ¬ w.heap.size = g := by omega
        have n5 : ¬ g = w1.heap.size := by omega
        have n6 : ¬ w1.heap.size = g := by omega
        have HCW := hid (HC.ext hxf)
        have HKW := hid (show Keep (fun k => k ≠ g) w w1 from (HXA.out.keep _).trans hk)
        have HGR := hid hgr2
        have HG2 := hid hg2
        have HR := hid hr
        have HGR1 := hid hgr
        have HC1 := hid HC
        clear HC hk hb0 hgr hgr2 hg2 hxf hr c0 c1
        obtain ⟨ga, oa, rfl, hga, cb⟩ := RdB.first HR.out
        have cb1 := ((Ext.refl w1).alloc (.cells #[.string t, .bool false, .int .i64 0, .string ⟨#[]⟩] 108)).cellS cb
        have hlc : ((1 : UInt8) :: r).length = r.length + 1 := by simp
        have HGF := hid (show (w1.alloc (.cells #[.string t, .bool false, .int .i64 0, .string ⟨#[]⟩] 108)).heap[w1.heap.size]? = some (.cells #[.string t, .bool false, .int .i64 0, .string ⟨#[]⟩] 108 (0, 0)) from heap_alloc_new _ _)
        have HLC := hid hlc
        clear cb hlc
        rw [HLC.out] at e0
        go_wp2_with fail
        refine (take_any _ g B ((1 : UInt8) :: r, b1) 1 0 HCW.out (fun _ => by show 1 ≤ ((1 : UInt8) :: r).length; have := HLC.out; omega) (by omega) (by omega)).mono ?_
        rintro en w5 ⟨rfl, HC5, hk5⟩
        have hc5 : CurC w5 g B (r, b1) := HC5
        clear HC5 e0 e1 cb1 r0 r1 r2 r3 fr0 fr1 fr2 fr3 fg0 fg1
        go_wp2_with fail
        refine (text_any w5 g B (r, b1) 200 hc5 (by omega) (by show r.length ≤ _; omega)).mono ?_
        rw [HZ.out]
        rintro en w6 ⟨rfl, HC6, hk6'⟩
        have hk6 : Keep (fun k => k ≠ g) (w1.alloc (.cells #[.string t, .bool false, .int .i64 0, .string ⟨#[]⟩] 108)) w6 := hk5.trans hk6'
        dsimp only at HC6
        have hgf6 : w6.heap[w1.heap.size]? = some (.cells #[.string t, .bool false, .int .i64 0, .string ⟨#[]⟩] 108 (0, 0)) := (hk6.block _ (by show w1.heap.size ≠ g; omega) (by simp)).trans (heap_alloc_new _ _)
        have hgr6 : w6.heap[w.heap.size]? = _ := (hk6.block _ (by show w.heap.size ≠ g; omega) (by simp; omega)).trans ((Below.block ((Ext.refl w1).alloc _) w.heap.size hsz).trans HGR1.out)
        have y0 : w6.cell? ⟨w1.heap.size, 0, none⟩ = some (.string t) := (cell_of_row _ _ _ _ _ _ hgf6).trans rfl
        have y1 : w6.cell? ⟨w1.heap.size, 1, none⟩ = some (.bool false) := (cell_of_row _ _ _ _ _ _ hgf6).trans rfl
        have y2 : w6.cell? ⟨w1.heap.size, 2, none⟩ = some (.int .i64 0) := (cell_of_row _ _ _ _ _ _ hgf6).trans rfl
        have y3 : w6.cell? ⟨w1.heap.size, 3, none⟩ = some (.string ⟨#[]⟩) := (cell_of_row _ _ _ _ _ _ hgf6).trans rfl
        have z0 : w6.cell? ⟨w.heap.size, 0, none⟩ = some (.string .empty) := (cell_of_row _ _ _ _ _ _ hgr6).trans rfl
        have z1 : w6.cell? ⟨w.heap.size, 1, none⟩ = some (.bool false) := (cell_of_row _ _ _ _ _ _ hgr6).trans rfl
        have z2 : w6.cell? ⟨w.heap.size, 2, none⟩ = some (.int .i64 0) := (cell_of_row _ _ _ _ _ _ hgr6).trans rfl
        have z3 : w6.cell? ⟨w.heap.size, 3, none⟩ = some (.string .empty) := (cell_of_row _ _ _ _ _ _ hgr6).trans rfl
        have gr0 := frozen_blk hgr6 0
        have gr1 := frozen_blk hgr6 1
        have gr2 := frozen_blk hgr6 2
        have gr3 := frozen_blk hgr6 3
        have gf0 := frozen_blk hgf6 0
        have gf1 := frozen_blk hgf6 1
        have gf3 := frozen_blk hgf6 3
        go_wp2_with fail
        have HGX := hid (show ((w6.setCell ⟨w1.heap.size, 1, none⟩ (.bool true)).setCell ⟨w1.heap.size, 3, none⟩ (.string s2)).heap[w.heap.size]? = _ from (Below.heap_setCell _ _ _ _ (by show w.heap.size ≠ w1.heap.size; omega)).trans ((Below.heap_setCell _ _ _ _ (by show w.heap.size ≠ w1.heap.size; omega)).trans hgr6))
        have hBB : B ≤ g := by obtain ⟨_, _, _, _, h5⟩ := HC6; exact h5
        obtain ⟨q0, q1, q2, q3⟩ := four_cells (v0 := .string t) (v1 := .bool true) (v2 := .int .i64 0) (v3 := .string s2) HGX.out
        refine bodyPost_ret (v := .agg #[.string t, .bool true, .int .i64 0, .string s2]) (by simp [results, Try.results65, go_sem, q0, q1, q2, q3]) rfl ?_
        refine ⟨by rw [HF.out], ?_, keep_below2 (keep_below2 ((HKW.out.alloc _).trans hk6) (((Below.refl w.heap.size w6).setCell (by show w.heap.size ≤ w1.heap.size; omega) _).setCell (by show w.heap.size ≤ w1.heap.size; omega) _) (fun x hx hl => hl)) below_four (fun x hx hl => hl)⟩
        rw [HF.out]
        exact (HC6.keep (((Keep.refl (fun k => k ≠ w1.heap.size) w6).setCell (by simp) _).setCell (by simp) _) (by omega) (fun k hk => by omega)).keep (keep_four (Keep.refl (fun k => k ≠ w.heap.size) _) (by simp)) (by omega) (fun k hk => by have := HCW.out; obtain ⟨_, _, _, _, h5⟩ := this; omega)
      · have HF := hid (rFld_bad HT.out hc0 hc1)
        have t0 : ((c.toNat : Int) == 0) = false := by
          rw [beq_eq_false_iff_ne]; intro e; exact hc0 (UInt8.toNat_inj.1 (by simpa using e))
        have t1 : ((c.toNat : Int) == 1) = false := by
          rw [beq_eq_false_iff_ne]; intro e; exact hc1 (UInt8.toNat_inj.1 (by simp; omega))
        go_enter Try.func65, Try.ntmps65
        go_wp2_with fail
        refine (text_any _ g B st 60 (H.out.ext HXA.out) (by omega) hl).mono ?_
        rw [HT.out]
        rintro en w1 ⟨rfl, HC, hk⟩
        dsimp only at HC
        obtain ⟨a, cap, c0, hr, hc1, hc2⟩ := HC.cells
        have c1 := HC.bad
        dsimp only at c0 hc1 c1 hr
        obtain ⟨vv, hb0, -⟩ := id HC
        dsimp only at hb0
        have hsz : w.heap.size < w1.heap.size := by have := hk.size; simp at this; omega
        have hgr : w1.heap[w.heap.size]? = some (.cells #[.string .empty, .bool false, .int .i64 0, .string .empty] 108 (0, 0)) := by rw [hk.block w.heap.size (by show w.heap.size ≠ g; omega) (by simp)]; exact heap_alloc_new _ _
        have hxf : Ext w1 (w1.alloc (.cells #[.string t, .bool false, .int .i64 0, .string ⟨#[]⟩] 108)) := (Ext.refl w1).alloc _
        have hgr2 : (w1.alloc (.cells #[.string t, .bool false, .int .i64 0, .string ⟨#[]⟩] 108)).heap[w.heap.size]? = _ := (Below.block hxf w.heap.size hsz).trans hgr
        have hg2 : (w1.alloc (.cells #[.string t, .bool false, .int .i64 0, .string ⟨#[]⟩] 108)).heap[g]? = _ := (Below.block hxf g (by omega)).trans hb0
        have r0 : (w1.alloc (.cells #[.string t, .bool false, .int .i64 0, .string ⟨#[]⟩] 108)).cell? ⟨w.heap.size, 0, none⟩ = some (.string .empty) := by rw [cell_of_row _ _ _ _ _ _ hgr2]; rfl
        have r1 : (w1.alloc (.cells #[.string t, .bool false, .int .i64 0, .string ⟨#[]⟩] 108)).cell? ⟨w.heap.size, 1, none⟩ = some (.bool false) := by rw [cell_of_row _ _ _ _ _ _ hgr2]; rfl
        have r2 : (w1.alloc (.cells #[.string t, .bool false, .int .i64 0, .string ⟨#[]⟩] 108)).cell? ⟨w.heap.size, 2, none⟩ = some (.int .i64 0) := by rw [cell_of_row _ _ _ _ _ _ hgr2]; rfl
        have r3 : (w1.alloc (.cells #[.string t, .bool false, .int .i64 0, .string ⟨#[]⟩] 108)).cell? ⟨w.heap.size, 3, none⟩ = some (.string .empty) := by rw [cell_of_row _ _ _ _ _ _ hgr2]; rfl
        have fr0 := frozen_blk hgr2 0
        have fr1 := frozen_blk hgr2 1
        have fr2 := frozen_blk hgr2 2
        have fr3 := frozen_blk hgr2 3
        have e0 := hxf.cellS c0
        have e1 := hxf.cellS c1
        have fg0 := frozen_blk hg2 0
        have fg1 := frozen_blk hg2 1
        have n1 : ¬ w1.heap.size = w.heap.size := by omega
        have n2 : ¬ w.heap.size = w1.heap.size := by omega
        have n3 : ¬ g = w.heap.size := by omega
        have n4 : ¬ w.heap.size = g := by omega
        have n5 : ¬ g = w1.heap.size := by omega
        have n6 : ¬ w1.heap.size = g := by omega
        have HCW := hid (HC.ext hxf)
        have HKW := hid (show Keep (fun k => k ≠ g) w w1 from (HXA.out.keep _).trans hk)
        have HGR := hid hgr2
        have HG2 := hid hg2
        have HR := hid hr
        have HGR1 := hid hgr
        have HC1 := hid HC
        clear HC hk hb0 hgr hgr2 hg2 hxf hr c0 c1
        obtain ⟨ga, oa, rfl, hga, cb⟩ := RdB.first HR.out
        have cb1 := ((Ext.refl w1).alloc (.cells #[.string t, .bool false, .int .i64 0, .string ⟨#[]⟩] 108)).cellS cb
        have hlc : (c :: r).length = r.length + 1 := by simp
        have HGF := hid (show (w1.alloc (.cells #[.string t, .bool false, .int .i64 0, .string ⟨#[]⟩] 108)).heap[w1.heap.size]? = some (.cells #[.string t, .bool false, .int .i64 0, .string ⟨#[]⟩] 108 (0, 0)) from heap_alloc_new _ _)
        have HLC := hid hlc
        clear cb hlc
        rw [HLC.out] at e0
        go_wp2_with fail
        have HGX := hid (show (((w1.alloc (.cells #[.string t, .bool false, .int .i64 0, .string ⟨#[]⟩] 108))).setCell ⟨g, 1, none⟩ (.bool true)).heap[w.heap.size]? = _ from (Below.heap_setCell _ _ _ _ (by show w.heap.size ≠ g; omega)).trans HGR.out)
        obtain ⟨q0, q1, q2, q3⟩ := four_cells (v0 := .string t) (v1 := .bool false) (v2 := .int .i64 0) (v3 := .string ⟨#[]⟩) HGX.out
        refine bodyPost_ret (v := .agg #[.string t, .bool false, .int .i64 0, .string ⟨#[]⟩]) (by simp [results, Try.results65, go_sem, q0, q1, q2, q3]) rfl ?_
        refine ⟨by rw [HF.out], ?_, keep_below2 ((HKW.out.alloc _).setCell (by simp) _) below_four (fun x hx hl => hl)⟩
        rw [HF.out]
        exact (CurT.setBad HCW.out).keep (keep_four (Keep.refl (fun k => k ≠ w.heap.size) _) (by simp)) (by omega) (fun k hk => by have := HCW.out; obtain ⟨_, _, _, _, h5⟩ := this; omega)
end Go.Proofs.Ythobhkmphjnlaaa
