/- InodePlays, walked: the law. -/
import Derived.Test.YtbpcgfplokkfpaaPlaysC
import Derived.Deep.RegionHeld3
namespace Go.Proofs.Ytbpcgfplokkfpaa
open Go.RowKit
set_option linter.unusedVariables false
set_option linter.unusedSimpArgs false

theorem newR (w : World) : RNodeAt (w.alloc (.cells #[.int .i64 0, .slice none 0 0] 71)) w.heap.size none 0 [] := ⟨_, heap_alloc_new _ _, Rd.nil _ _, rfl, by simp, by simp⟩
theorem Duo6.cells {w : World} {base bf br gA gB rA rB : Nat} {qA qB pA pB : Option Nat} {sA sB : Int} {LA LB : List Int} (h : Duo6 w base bf br gA gB rA rB qA qB pA pB sA sB LA LB) :
    w.cell? ⟨bf, 0, none⟩ = some (.pointer (some ⟨gA, 0, none⟩)) ∧ w.cell? ⟨bf, 1, none⟩ = some (.pointer (some ⟨gB, 0, none⟩)) ∧ w.cell? ⟨br, 0, none⟩ = some (.pointer (some ⟨rA, 0, none⟩)) ∧ w.cell? ⟨br, 1, none⟩ = some (.pointer (some ⟨rB, 0, none⟩)) :=
  ⟨by rw [cell_of_row _ _ _ _ _ _ h.f]; rfl, by rw [cell_of_row _ _ _ _ _ _ h.f]; rfl, by rw [cell_of_row _ _ _ _ _ _ h.r]; rfl, by rw [cell_of_row _ _ _ _ _ _ h.r]; rfl⟩

set_option maxRecDepth 100000 in
set_option maxHeartbeats 8000000 in
theorem inodePlays_walk (w : World) (v : Value) (zs : List CallI) (rd : RdS rCallI w (fun k => k < w.heap.size) v zs) (h16 : ∀ c ∈ zs, c.2.2.1.length * 16 ≤ 140737488351232) :
    Calls Try.prog 11 #[v] w fun e w' => e = .returned (.bool true) ∧ Below w.heap.size w w' := by
  have HV := hid rd
  have H16 := hid h16
  obtain ⟨av, cv, rfl, hc1, hc2⟩ := rd.slice
  clear rd h16
  go_enter Try.func11, Try.ntmps11
  go_wp2_with (first | (go_at_call 16; go_must (refine (awake6_any _).mono ?_; rintro e w0 ⟨rfl, hb'⟩; have HX0 := hid (Ext.of hb'); clear hb')) | (have KEY := HNA; go_at_call 39; go_must (refine Calls.mono (nodeNew_any _) ?_; rintro e w2 ⟨gB, rfl, HNB, hgB, hb2⟩; have HNB := hid HNB; have HX2 := hid (Ext.of hb2); clear hb2)) | (go_at_call 39; go_must (refine Calls.mono (nodeNew_any _) ?_; rintro e w1 ⟨gA, rfl, HNA, hgA, hb1⟩; have HNA := hid HNA; have HX1 := hid (Ext.of hb1); clear hb1)))
  have hs0 := HX0.out.size
  have hs1 := HX1.out.size
  have hs2 := HX2.out.size
  have hgal := HNA.out.lt
  have hgbl := HNB.out.lt
  have hgal2 : gA < w2.heap.size := by omega
  obtain ⟨a1, ha1⟩ : ∃ a1, a1 = w2.alloc (.cells #[.pointer (some ⟨gA, 0, none⟩), .pointer (some ⟨gB, 0, none⟩)] 24) := ⟨_, rfl⟩
  rw [← ha1]
  obtain ⟨a2, ha2⟩ : ∃ a2, a2 = a1.alloc (.cells #[.int .i64 0, .slice none 0 0] 71) := ⟨_, rfl⟩
  rw [← ha2]
  obtain ⟨a3, ha3⟩ : ∃ a3, a3 = a2.alloc (.cells #[.int .i64 0, .slice none 0 0] 71) := ⟨_, rfl⟩
  rw [← ha3]
  have z1 : a1.heap.size = w2.heap.size + 1 := by rw [ha1]; simp
  have z2 : a2.heap.size = w2.heap.size + 1 + 1 := by rw [ha2]; simp [z1]
  have z3 : a3.heap.size = w2.heap.size + 1 + 1 + 1 := by rw [ha3]; simp [z2]
  obtain ⟨wi, hwi⟩ : ∃ wi, wi = a3.alloc (.cells #[.pointer (some ⟨w2.heap.size + 1, 0, none⟩), .pointer (some ⟨w2.heap.size + 1 + 1, 0, none⟩)] 69) := ⟨_, rfl⟩
  rw [← hwi]
  have x21 : Ext w2 a1 := by rw [ha1]; exact (Ext.refl _).alloc _
  have x12 : Ext a1 a2 := by rw [ha2]; exact (Ext.refl _).alloc _
  have x23 : Ext a2 a3 := by rw [ha3]; exact (Ext.refl _).alloc _
  have x3i : Ext a3 wi := by rw [hwi]; exact (Ext.refl _).alloc _
  have zi : wi.heap.size = w2.heap.size + 1 + 1 + 1 + 1 := by rw [hwi]; simp [z3]
  have HD0 := hid (show Duo6 wi w.heap.size w2.heap.size (w2.heap.size + 1 + 1 + 1) gA gB (w2.heap.size + 1) (w2.heap.size + 1 + 1) none none none none 0 0 [] [] from by
    have hf : a1.heap[w2.heap.size]? = some (.cells #[.pointer (some ⟨gA, 0, none⟩), .pointer (some ⟨gB, 0, none⟩)] 24 (0, 0)) := by rw [ha1]; exact heap_alloc_new _ _
    have hr : wi.heap[w2.heap.size + 1 + 1 + 1]? = some (.cells #[.pointer (some ⟨w2.heap.size + 1, 0, none⟩), .pointer (some ⟨w2.heap.size + 1 + 1, 0, none⟩)] 69 (0, 0)) := by rw [hwi, ← z3]; exact heap_alloc_new _ _
    have hA : RNodeAt a2 (w2.heap.size + 1) none 0 [] := by have := newR a1; rw [z1, ← ha2] at this; exact this
    have hB : RNodeAt a3 (w2.heap.size + 1 + 1) none 0 [] := by have := newR a2; rw [z2, ← ha3] at this; exact this
    refine ⟨(Below.block (x12.trans (x23.trans x3i)) _ (by omega)).trans hf, hr, ⟨HNA.out.ext (HX2.out.trans (x21.trans (x12.trans (x23.trans x3i)))), hA.ext (x23.trans x3i), NodeOk.empty, by omega, by simp, by simp⟩, ⟨HNB.out.ext (x21.trans (x12.trans (x23.trans x3i))), hB.ext x3i, NodeOk.empty, by omega, by simp, by simp⟩, ?_, ?_, by simp⟩
    · simp only [List.nodup_cons, List.mem_cons, List.not_mem_nil, or_false, not_or, not_false_eq_true, List.nodup_nil, and_true]
      omega
    · intro z hz
      simp only [List.mem_cons, List.not_mem_nil, or_false] at hz
      rcases hz with rfl | rfl | rfl | rfl | rfl | rfl <;> omega)
  have hxi : Ext w wi := HX0.out.trans (HX1.out.trans (HX2.out.trans (x21.trans (x12.trans (x23.trans x3i)))))
  have HXI := hid hxi
  have hwi2 : w.heap.size ≤ wi.heap.size := hxi.size
  clear ha1 ha2 ha3 hwi x21 x12 x23 x3i hxi z1 z2 z3 zi HNA HNB HX0 HX1 HX2
  have hbf : w.heap.size ≤ w2.heap.size := by omega
  obtain ⟨br, hbr⟩ : ∃ br, br = w2.heap.size + 1 + 1 + 1 := ⟨_, rfl⟩
  rw [← hbr] at HD0 ⊢
  clear hbr
  obtain ⟨bf, hbf2⟩ : ∃ bf, bf = w2.heap.size := ⟨_, rfl⟩
  rw [show Duo6 wi w.heap.size w2.heap.size = Duo6 wi w.heap.size bf by rw [hbf2]] at HD0
  rw [← hbf2]
  clear hbf2 hbf
  go_loopw [6] (fun u6 wr => ∃ i : Nat, ∃ gA gB rA rB qA qB pA pB sA sB LA LB, i ≤ zs.length ∧ i ≤ 100 ∧ u6 = .int .i64 i ∧ Duo6 wr w.heap.size bf br gA gB rA rB qA qB pA pB sA sB LA LB ∧ Ext w wr) (fun i _ => 100 - (intOf i).toNat)
  case atStart => exact ⟨0, _, _, _, _, _, _, _, _, _, _, _, _, by omega, by omega, rfl, HD0.out, HXI.out⟩
  case round =>
    clear HD0 HXI hwi2 hgal hgbl hgal2 hs0 hs1 hs2 hgA hgB
    obtain ⟨wo, rfl⟩ : ∃ wo : World, wo = wr := ⟨_, rfl⟩
    obtain ⟨i, gA, gB, rA, rB, qA, qB, pA, pB, sA, sB, LA, LB, hi, hi100, rfl, hd, hx⟩ := hrel
    have HD := hid hd
    have HX := hid hx
    obtain ⟨cf0, cf1, cr0, cr1⟩ := hd.cells
    have ff0 := frozen_row hd.f 0
    have ff1 := frozen_row hd.f 1
    have fr0 := frozen_row hd.r 0
    have fr1 := frozen_row hd.r 1
    have hbb : bf ≠ br := by have := hd.nd; simp only [List.nodup_cons, List.mem_cons, List.not_mem_nil, or_false, not_or] at this; omega
    have hlof := hd.lo bf (by simp)
    have hlor := hd.lo br (by simp)
    have HNDP := hid hd.nd
    clear hd
    by_cases hlt : i < zs.length ∧ i < 100
    · obtain ⟨hlt, hlt2⟩ := hlt
      obtain ⟨gl, ol, cl, lv, e, hgl, hgs, d0, d1, d2, d3, hz0, hz1, hrl, hro, -⟩ := HV.out.atCallI i hlt
      simp only [Value.slice.injEq] at e
      obtain ⟨rfl, -, rfl⟩ := e
      have hm16 := H16.out _ (List.getElem_mem hlt)
      generalize zs[i] = z at d0 d1 d2 d3 hz0 hz1 hrl hro hm16
      obtain ⟨zk, zn, zl, zt⟩ := z
      dsimp only at d0 d1 d2 d3 hz0 hz1 hrl hro hm16
      have D0 := hid d0
      have D1 := hid d1
      have D2 := hid d2
      have D3 := hid d3
      have HRL := hid hrl
      have HRO := hid hro
      have e0 := hx.cellS d0
      have e1 := hx.cellS d1
      have e2 := hx.cellS d2
      have e3 := hx.cellS d3
      have hglw : gl < wo.heap.size := Nat.lt_of_lt_of_le hgl hx.size
      clear d0 d1 d2 d3 hrl hro hx
      by_cases h6 : zk = 6
      · subst h6
        cases zt
        · have f1w := ff1
          go_wp2_with (first | (go_at_call 46; go_must (refine (nodeCopy_any _ gA qA sA LA HD.out.a.node (by have := HD.out.a.ok.len64; omega)).mono ?_; rintro e w1 ⟨gN, qN, rfl, HNN, hgN, hqN, hb1⟩; have hx1 := Ext.of hb1; have HX1 := hid hx1; have HNN := hid HNN; have HQN := hid hqN; have hbk := (Below.block hx1 bf hlof.2).trans HD.out.f; have f11 := frozen_row hbk 1; have hbkr := (Below.block hx1 br hlor.2).trans HD.out.r; have k1 := hx1.cellS cr0; have k2 := hx1.cellS cf1; have hbr1 := hid hbkr; clear hbk hbkr hqN hb1)) | (go_at_call 47; go_must (refine (rCopy_any _ rA pA sA LA ((HD.out.a.rnode.ext HX1.out).keep ((Keep.refl (fun k => k ≠ bf) w1).setCell (by simp) _) (by have := HNDP.out; simp only [List.nodup_cons, List.mem_cons, List.not_mem_nil, or_false, not_or] at this; omega) (fun k hk e => HD.out.ap pA (by simp) bf (by simp) (by rw [hk, e]))) (by have := HD.out.a.ok.len64; omega)).mono ?_; rintro e w2 ⟨rN, pN, rfl, HRN, hrN, hpN, hb2⟩; have hx2 := Ext.of hb2; have HX2 := hid hx2; have HRN := hid HRN; have HPN := hid hpN; have hbk2 := (Below.block hx2 br (by have := HX1.out.size; simp [World.setCell]; omega)).trans ((Below.heap_setCell _ _ _ _ (by show br ≠ bf; omega)).trans hbr1.out); have f22 := frozen_row hbk2 1; have k3 := (cell_of_row _ _ _ _ _ _ hbk2 : w2.cell? ⟨br, 1, none⟩ = _); clear hbk2 hpN hb2)))
          go_roundw
          case rel => exact ⟨i + 1, _, _, _, _, _, _, _, _, _, _, _, _, by omega, by omega, by go_num, Duo6.copyA HD.out HX.out.size HX1.out HNN.out hgN HQN.out HX2.out HRN.out hrN HPN.out, ((((HX.out.trans HX1.out).setCell (by show w.heap.size ≤ bf; omega) _).trans HX2.out).setCell (by show w.heap.size ≤ br; omega) _)⟩
          case measure => simp [intOf]; omega
        · have f1w := ff0
          go_wp2_with (first | (go_at_call 46; go_must (refine (nodeCopy_any _ gB qB sB LB HD.out.b.node (by have := HD.out.b.ok.len64; omega)).mono ?_; rintro e w1 ⟨gN, qN, rfl, HNN, hgN, hqN, hb1⟩; have hx1 := Ext.of hb1; have HX1 := hid hx1; have HNN := hid HNN; have HQN := hid hqN; have hbk := (Below.block hx1 bf hlof.2).trans HD.out.f; have f11 := frozen_row hbk 0; have hbkr := (Below.block hx1 br hlor.2).trans HD.out.r; have k1 := hx1.cellS cr1; have k2 := hx1.cellS cf0; have hbr1 := hid hbkr; clear hbk hbkr hqN hb1)) | (go_at_call 47; go_must (refine (rCopy_any _ rB pB sB LB ((HD.out.b.rnode.ext HX1.out).keep ((Keep.refl (fun k => k ≠ bf) w1).setCell (by simp) _) (by have := HNDP.out; simp only [List.nodup_cons, List.mem_cons, List.not_mem_nil, or_false, not_or] at this; omega) (fun k hk e => HD.out.ap pB (by simp) bf (by simp) (by rw [hk, e]))) (by have := HD.out.b.ok.len64; omega)).mono ?_; rintro e w2 ⟨rN, pN, rfl, HRN, hrN, hpN, hb2⟩; have hx2 := Ext.of hb2; have HX2 := hid hx2; have HRN := hid HRN; have HPN := hid hpN; have hbk2 := (Below.block hx2 br (by have := HX1.out.size; simp [World.setCell]; omega)).trans ((Below.heap_setCell _ _ _ _ (by show br ≠ bf; omega)).trans hbr1.out); have f22 := frozen_row hbk2 0; have k3 := (cell_of_row _ _ _ _ _ _ hbk2 : w2.cell? ⟨br, 0, none⟩ = _); clear hbk2 hpN hb2)))
          go_roundw
          case rel => exact ⟨i + 1, _, _, _, _, _, _, _, _, _, _, _, _, by omega, by omega, by go_num, Duo6.copyB HD.out HX.out.size HX1.out HNN.out hgN HQN.out HX2.out HRN.out hrN HPN.out, ((((HX.out.trans HX1.out).setCell (by show w.heap.size ≤ bf; omega) _).trans HX2.out).setCell (by show w.heap.size ≤ br; omega) _)⟩
          case measure => simp [intOf]; omega
      · have t6 : (zk == 6) = false := by simpa using h6
        cases zt
        · obtain ⟨la, lc, rfl, -⟩ := HRL.out.slice
          go_wp2_with fail
          go_region_held (fun w' => w'.cell? ⟨bf, 0, none⟩ = some (.pointer (some ⟨gA, 0, none⟩)) ∧ w'.cell? ⟨br, 0, none⟩ = some (.pointer (some ⟨rA, 0, none⟩)) ∧ w'.cell? ⟨gl, ol + i * 4, none⟩ = some (.int .i64 zk) ∧ w'.cell? ⟨gl, ol + i * 4 + 1, none⟩ = some (.int .i64 zn) ∧ w'.cell? ⟨gl, ol + i * 4 + 2, none⟩ = some (.slice la zl.length lc) ∧ w'.cell? ⟨gl, ol + i * 4 + 3, none⟩ = some (.bool false)) (first | go_keep | (go_split_ands; exact ⟨HDC.out.1, HDC.out.2.2.1, hxw2.cellS D0.out, hxw2.cellS D1.out, hxw2.cellS D2.out, hxw2.cellS D3.out⟩) | exact ⟨HDC.out.1, HDC.out.2.2.1, hxw2.cellS D0.out, hxw2.cellS D1.out, hxw2.cellS D2.out, hxw2.cellS D3.out⟩) ((go_at_call 48; go_must (refine (do6_all _ gA rA qA pA sA zk zn LA _ _ zl (HD.out.a.ext (by (· repeat (first | (with_reducible assumption) | exact Ext.refl _ | refine Ext.alloc ?_ _ | refine Ext.drew ?_ | refine Ext.drewN ?_ _ | (apply Ext.snart; (with_reducible assumption)))))) hz1 (HRL.out.ext (HX.out.trans (by (· repeat (first | (with_reducible assumption) | exact Ext.refl _ | refine Ext.alloc ?_ _ | refine Ext.drew ?_ | refine Ext.drewN ?_ _ | (apply Ext.snart; (with_reducible assumption))))))) HRO.out hm16).mono ?_; intro e w2 hd2; obtain ⟨rfl, hk2, q1, p1, s1, L1, HD2⟩ := Duo6.stepA (HD.out.ext (by (· repeat (first | (with_reducible assumption) | exact Ext.refl _ | refine Ext.alloc ?_ _ | refine Ext.drew ?_ | refine Ext.drewN ?_ _ | (apply Ext.snart; (with_reducible assumption)))))) hd2; have hxw2 : Ext w w2 := Below.trans (HX.out.trans (by (· repeat (first | (with_reducible assumption) | exact Ext.refl _ | refine Ext.alloc ?_ _ | refine Ext.drew ?_ | refine Ext.drewN ?_ _ | (apply Ext.snart; (with_reducible assumption)))))) (hk2.below w.heap.size HX.out.size (fun k hk => ⟨by have := (HD.out.lo gA (by simp)).1; omega, by have := (HD.out.lo rA (by simp)).1; omega⟩)); have HDC := hid HD2.cells; have HD2 := hid HD2; clear hd2 hk2)))
          all_goals
            go_wp2_with fail
            go_roundw
            case rel => exact ⟨i + 1, _, _, _, _, _, _, _, _, _, _, _, _, by omega, by omega, by go_num, HD2.out.ext (by (· repeat (first | (with_reducible assumption) | exact Ext.refl _ | refine Ext.alloc ?_ _ | refine Ext.drew ?_ | refine Ext.drewN ?_ _ | (apply Ext.snart; (with_reducible assumption))))), hxw2.trans (by (· repeat (first | (with_reducible assumption) | exact Ext.refl _ | refine Ext.alloc ?_ _ | refine Ext.drew ?_ | refine Ext.drewN ?_ _ | (apply Ext.snart; (with_reducible assumption)))))⟩
            case measure => simp [intOf]; omega
        · obtain ⟨la, lc, rfl, -⟩ := HRL.out.slice
          go_wp2_with fail
          go_region_held (fun w' => w'.cell? ⟨bf, 1, none⟩ = some (.pointer (some ⟨gB, 0, none⟩)) ∧ w'.cell? ⟨br, 1, none⟩ = some (.pointer (some ⟨rB, 0, none⟩)) ∧ w'.cell? ⟨gl, ol + i * 4, none⟩ = some (.int .i64 zk) ∧ w'.cell? ⟨gl, ol + i * 4 + 1, none⟩ = some (.int .i64 zn) ∧ w'.cell? ⟨gl, ol + i * 4 + 2, none⟩ = some (.slice la zl.length lc) ∧ w'.cell? ⟨gl, ol + i * 4 + 3, none⟩ = some (.bool true)) (first | go_keep | (go_split_ands; exact ⟨HDC.out.2.1, HDC.out.2.2.2, hxw2.cellS D0.out, hxw2.cellS D1.out, hxw2.cellS D2.out, hxw2.cellS D3.out⟩) | exact ⟨HDC.out.2.1, HDC.out.2.2.2, hxw2.cellS D0.out, hxw2.cellS D1.out, hxw2.cellS D2.out, hxw2.cellS D3.out⟩) ((go_at_call 48; go_must (refine (do6_all _ gB rB qB pB sB zk zn LB _ _ zl (HD.out.b.ext (by (· repeat (first | (with_reducible assumption) | exact Ext.refl _ | refine Ext.alloc ?_ _ | refine Ext.drew ?_ | refine Ext.drewN ?_ _ | (apply Ext.snart; (with_reducible assumption)))))) hz1 (HRL.out.ext (HX.out.trans (by (· repeat (first | (with_reducible assumption) | exact Ext.refl _ | refine Ext.alloc ?_ _ | refine Ext.drew ?_ | refine Ext.drewN ?_ _ | (apply Ext.snart; (with_reducible assumption))))))) HRO.out hm16).mono ?_; intro e w2 hd2; obtain ⟨rfl, hk2, q1, p1, s1, L1, HD2⟩ := Duo6.stepB (HD.out.ext (by (· repeat (first | (with_reducible assumption) | exact Ext.refl _ | refine Ext.alloc ?_ _ | refine Ext.drew ?_ | refine Ext.drewN ?_ _ | (apply Ext.snart; (with_reducible assumption)))))) hd2; have hxw2 : Ext w w2 := Below.trans (HX.out.trans (by (· repeat (first | (with_reducible assumption) | exact Ext.refl _ | refine Ext.alloc ?_ _ | refine Ext.drew ?_ | refine Ext.drewN ?_ _ | (apply Ext.snart; (with_reducible assumption)))))) (hk2.below w.heap.size HX.out.size (fun k hk => ⟨by have := (HD.out.lo gB (by simp)).1; omega, by have := (HD.out.lo rB (by simp)).1; omega⟩)); have HDC := hid HD2.cells; have HD2 := hid HD2; clear hd2 hk2)))
          all_goals
            go_wp2_with fail
            go_roundw
            case rel => exact ⟨i + 1, _, _, _, _, _, _, _, _, _, _, _, _, by omega, by omega, by go_num, HD2.out.ext (by (· repeat (first | (with_reducible assumption) | exact Ext.refl _ | refine Ext.alloc ?_ _ | refine Ext.drew ?_ | refine Ext.drewN ?_ _ | (apply Ext.snart; (with_reducible assumption))))), hxw2.trans (by (· repeat (first | (with_reducible assumption) | exact Ext.refl _ | refine Ext.alloc ?_ _ | refine Ext.drew ?_ | refine Ext.drewN ?_ _ | (apply Ext.snart; (with_reducible assumption)))))⟩
            case measure => simp [intOf]; omega
    · have hex : ¬ i < zs.length ∨ (i < zs.length ∧ ¬ i < 100) := by omega
      clear hlt
      rcases hex with hex | ⟨hex, hex2⟩
      all_goals
        go_wp2_with fail
        go_region_held (fun w' => w'.cell? ⟨bf, 0, none⟩ = some (.pointer (some ⟨gA, 0, none⟩)) ∧ w'.cell? ⟨br, 0, none⟩ = some (.pointer (some ⟨rA, 0, none⟩))) (first | go_keep | exact ⟨HDXC.1, HDXC.2.2.1⟩) ((go_at_call 49; go_must (refine (asked6_any _ gA rA qA pA sA LA (HD.out.a.node.ext (by (· repeat (first | (with_reducible assumption) | exact Ext.refl _ | refine Ext.alloc ?_ _ | refine Ext.drew ?_ | refine Ext.drewN ?_ _ | (apply Ext.snart; (with_reducible assumption)))))) (HD.out.a.rnode.ext (by (· repeat (first | (with_reducible assumption) | exact Ext.refl _ | refine Ext.alloc ?_ _ | refine Ext.drew ?_ | refine Ext.drewN ?_ _ | (apply Ext.snart; (with_reducible assumption)))))) HD.out.a.ok).mono ?_; rintro e w5 ⟨rfl, hb'⟩; have HDXX := Ext.of hb'; have HDX := hid (HD.out.ext (show Ext _ w5 by (· repeat (first | (with_reducible assumption) | exact Ext.refl _ | refine Ext.alloc ?_ _ | refine Ext.drew ?_ | refine Ext.drewN ?_ _ | (apply Ext.snart; (with_reducible assumption)))))); have HDXC := HDX.out.cells; clear hb')))
      all_goals
        obtain ⟨dX0, dX1, dX2, dX3⟩ := HDXC
        have HXW5 := hid (HX.out.trans (show Ext wo w5 by (· repeat (first | (with_reducible assumption) | exact Ext.refl _ | refine Ext.alloc ?_ _ | refine Ext.drew ?_ | refine Ext.drewN ?_ _ | (apply Ext.snart; (with_reducible assumption))))))
        go_wp2_with fail
        go_region_held (fun w' => w'.cell? ⟨bf, 1, none⟩ = some (.pointer (some ⟨gB, 0, none⟩)) ∧ w'.cell? ⟨br, 1, none⟩ = some (.pointer (some ⟨rB, 0, none⟩))) (first | go_keep | exact ⟨HDYC.2.1, HDYC.2.2.2⟩) ((go_at_call 49; go_must (refine (asked6_any _ gB rB qB pB sB LB (HDX.out.b.node.ext (by (· repeat (first | (with_reducible assumption) | exact Ext.refl _ | refine Ext.alloc ?_ _ | refine Ext.drew ?_ | refine Ext.drewN ?_ _ | (apply Ext.snart; (with_reducible assumption)))))) (HDX.out.b.rnode.ext (by (· repeat (first | (with_reducible assumption) | exact Ext.refl _ | refine Ext.alloc ?_ _ | refine Ext.drew ?_ | refine Ext.drewN ?_ _ | (apply Ext.snart; (with_reducible assumption)))))) HDX.out.b.ok).mono ?_; rintro e w6 ⟨rfl, hb'⟩; have HDYX := Ext.of hb'; have HDY := hid (HDX.out.ext (show Ext _ w6 by (· repeat (first | (with_reducible assumption) | exact Ext.refl _ | refine Ext.alloc ?_ _ | refine Ext.drew ?_ | refine Ext.drewN ?_ _ | (apply Ext.snart; (with_reducible assumption)))))); have HDYC := HDY.out.cells; clear hb')))
      all_goals
        go_wp2_with fail
        go_ret
        exact ⟨rfl, by show Ext _ _; exact HXW5.out.trans (by (· repeat (first | (with_reducible assumption) | exact Ext.refl _ | refine Ext.alloc ?_ _ | refine Ext.drew ?_ | refine Ext.drewN ?_ _ | (apply Ext.snart; (with_reducible assumption)))))⟩
end Go.Proofs.Ytbpcgfplokkfpaa
