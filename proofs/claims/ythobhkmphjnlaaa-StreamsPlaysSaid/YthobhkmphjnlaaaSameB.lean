/- The reference's SameBatch, walked. -/
import Derived.Test.YthobhkmphjnlaaaSameE
import Derived.Deep.RegionHeld3
namespace Go.Proofs.Ythobhkmphjnlaaa
open Go.RowKit
set_option linter.unusedVariables false
set_option linter.unusedSimpArgs false

set_option maxRecDepth 100000 in
set_option maxHeartbeats 4000000 in
theorem SameBatch_any (w : World) (S T : Nat → Prop) (s t k l : ByteArray) (m n : Int) (va vb : Value) (fs gs : List Ev) (ha : RdS rE w S va fs) (hb : RdS rE w T vb gs) :
    Calls Try.prog 28 #[.agg #[.string s, .string k, .int .i64 m, va], .agg #[.string t, .string l, .int .i64 n, vb]] w fun e w' => e = .returned (.bool (decide (((s, k, m, fs) : Bat) = (t, l, n, gs)))) ∧ Below w.heap.size w w' := by
  have HA := hid ha
  have HB := hid hb
  obtain ⟨a, cap, rfl, h1, h2⟩ := ha.slice
  obtain ⟨b, capb, rfl, k1, k2⟩ := hb.slice
  clear ha hb
  have hxw : Ext w ((w.alloc (.cells #[.string s, .string k, .int .i64 m, .slice a fs.length cap] 31)).alloc (.cells #[.string t, .string l, .int .i64 n, .slice b gs.length capb] 31)) := ((Ext.refl w).alloc _).alloc _
  by_cases q1 : s = t
  · by_cases q2 : k = l
    · by_cases q3 : m = n
      · subst q1 q2 q3
        by_cases hn : fs.length = gs.length
        · have HN := hid hn
          have hn' : (fs.length : Int) = (gs.length : Int) := by omega
          have hn'' : decide ((fs.length : Int) = (gs.length : Int)) = true := by simp [hn]
          clear hn
          go_enter Try.func28, Try.ntmps28
          go_wp2_with fail
          have c2 : ((w.alloc (.cells #[.string s, .string k, .int .i64 m, .slice a fs.length cap] 31)).alloc (.cells #[.string s, .string k, .int .i64 m, .slice b gs.length capb] 31)).cell? ⟨w.heap.size, 3, none⟩ = some (.slice a fs.length cap) := by simp [go_sem]
          have d2 : ((w.alloc (.cells #[.string s, .string k, .int .i64 m, .slice a fs.length cap] 31)).alloc (.cells #[.string s, .string k, .int .i64 m, .slice b gs.length capb] 31)).cell? ⟨w.heap.size + 1, 3, none⟩ = some (.slice b gs.length capb) := by simp [go_sem]
          obtain ⟨wa, hwa⟩ : ∃ wa, wa = ((w.alloc (.cells #[.string s, .string k, .int .i64 m, .slice a fs.length cap] 31)).alloc (.cells #[.string s, .string k, .int .i64 m, .slice b gs.length capb] 31)) := ⟨_, rfl⟩
          rw [← hwa] at c2 d2 hxw ⊢
          clear hwa
          have C2 := hid c2
          have D2 := hid d2
          have HXW := hid hxw
          clear c2 d2 hxw
          go_loopw [5, 6] (fun u5 u6 wr => ∃ i : Nat, i ≤ fs.length ∧ u5 = .int .i64 i ∧ fs.take i = gs.take i ∧ Ext wa wr) (fun i _ _ => fs.length - (intOf i).toNat)
          case atStart => exact ⟨0, by omega, rfl, rfl, Ext.refl _⟩
          case round =>
            obtain ⟨i, hi, rfl, heq, hx⟩ := hrel
            have HE := hid heq
            clear heq
            have c2 := Ext.cellS hx C2.out
            have d2 := Ext.cellS hx D2.out
            by_cases hl : i < fs.length
            · have hl' : i < gs.length := by have := HN.out; omega
              obtain ⟨g, o, c1, fv, e, hg, -, e0, e1, e2, -, -, hfs⟩ := (HA.out.ext (HXW.out.trans hx)).atE i hl
              simp only [Value.slice.injEq] at e
              obtain ⟨rfl, -, rfl⟩ := e
              obtain ⟨g', o', c2', gv, e, hg', -, f0, f1, f2, -, -, hgs⟩ := (HB.out.ext (HXW.out.trans hx)).atE i hl'
              simp only [Value.slice.injEq] at e
              obtain ⟨rfl, -, rfl⟩ := e
              have T1 := hid (List.take_succ_eq_append_getElem hl)
              have T2 := hid (List.take_succ_eq_append_getElem hl')
              obtain ⟨x, hx'⟩ : ∃ x, x = fs[i] := ⟨_, rfl⟩
              obtain ⟨y, hy⟩ : ∃ y, y = gs[i] := ⟨_, rfl⟩
              rw [← hx'] at e0 e1 hfs T1
              rw [← hy] at f0 f1 hgs T2
              have HX := hid hx'
              have HY := hid hy
              clear hx' hy
              have i1 : (i : Int) < (fs.length : Int) := by omega
              have i2 : (i : Int) < (gs.length : Int) := by omega
              have i3 : (0 : Int) ≤ (i : Int) := by omega
              obtain ⟨x1, x2, x3⟩ := x
              obtain ⟨y1, y2, y3⟩ := y
              dsimp only at e0 e1 e2 f0 f1 f2 hfs hgs
              have HFS := hid hfs
              have HGS := hid hgs
              obtain ⟨fa, fc, rfl, -⟩ := hfs.slice
              obtain ⟨ga, gc, rfl, -⟩ := hgs.slice
              clear hfs hgs
              by_cases q : ((x1, x2, x3) : Ev) = (y1, y2, y3)
              · have HD := hid (decide_eq_true q)
                have HQ := hid q
                clear q
                go_wp2_with fail
                go_region_held3 (fun w' => w'.cell? ⟨w.heap.size, 3, none⟩ = some (.slice (some ⟨g, o, none⟩) fs.length cap) ∧ w'.cell? ⟨w.heap.size + 1, 3, none⟩ = some (.slice (some ⟨g', o', none⟩) gs.length capb) ∧ w'.cell? ⟨g, o + i * 3, none⟩ = some (.string x1) ∧ w'.cell? ⟨g, o + i * 3 + 1, none⟩ = some (.int .i64 x2) ∧ w'.cell? ⟨g, o + i * 3 + 2, none⟩ = some (.slice fa x3.length fc) ∧ w'.cell? ⟨g', o' + i * 3, none⟩ = some (.string y1) ∧ w'.cell? ⟨g', o' + i * 3 + 1, none⟩ = some (.int .i64 y2) ∧ w'.cell? ⟨g', o' + i * 3 + 2, none⟩ = some (.slice ga y3.length gc)) (first | go_keep | (go_split_ands; exact ⟨Ext.cellS hx' (by assumption), Ext.cellS hx' (by assumption), Ext.cellS hx' (by assumption), Ext.cellS hx' (by assumption), Ext.cellS hx' (by assumption), Ext.cellS hx' (by assumption), Ext.cellS hx' (by assumption), Ext.cellS hx' (by assumption)⟩)) ((go_at_call 56; go_must (refine (SameEvent_any _ S T x1 y1 x2 y2 _ _ x3 y3 (RdS.ext HFS.out (by (· repeat (first | (with_reducible assumption) | exact Ext.refl _ | refine Ext.alloc ?_ _ | refine Ext.drew ?_ | refine Ext.drewN ?_ _ | (apply Ext.snart; (with_reducible assumption)))))) (RdS.ext HGS.out (by (· repeat (first | (with_reducible assumption) | exact Ext.refl _ | refine Ext.alloc ?_ _ | refine Ext.drew ?_ | refine Ext.drewN ?_ _ | (apply Ext.snart; (with_reducible assumption))))))).mono ?_; rw [HD.out]; rintro e w' ⟨rfl, hb'⟩; have hx' := Ext.of hb'; clear hb')))
                all_goals
                  have hxx : Ext wr w' := by (· repeat (first | (with_reducible assumption) | exact Ext.refl _ | refine Ext.alloc ?_ _ | refine Ext.drew ?_ | refine Ext.drewN ?_ _ | (apply Ext.snart; (with_reducible assumption))))
                  go_wp2_with fail
                  go_roundw
                  case rel => exact ⟨i + 1, by omega, by go_num, by rw [T1.out, T2.out, HE.out, HQ.out], hx.trans hxx⟩
                  case measure => simp [intOf]; omega
              · have HD := hid (decide_eq_false q)
                have HNE := hid (show ¬ ((s, k, m, fs) : Bat) = (s, k, m, gs) from fun e => by
                  simp only [Prod.mk.injEq, true_and] at e
                  subst e
                  exact q (HX.out.trans HY.out.symm))
                clear q
                go_wp2_with fail
                go_region_held3 (fun w' => w'.cell? ⟨w.heap.size, 3, none⟩ = some (.slice (some ⟨g, o, none⟩) fs.length cap) ∧ w'.cell? ⟨w.heap.size + 1, 3, none⟩ = some (.slice (some ⟨g', o', none⟩) gs.length capb) ∧ w'.cell? ⟨g, o + i * 3, none⟩ = some (.string x1) ∧ w'.cell? ⟨g, o + i * 3 + 1, none⟩ = some (.int .i64 x2) ∧ w'.cell? ⟨g, o + i * 3 + 2, none⟩ = some (.slice fa x3.length fc) ∧ w'.cell? ⟨g', o' + i * 3, none⟩ = some (.string y1) ∧ w'.cell? ⟨g', o' + i * 3 + 1, none⟩ = some (.int .i64 y2) ∧ w'.cell? ⟨g', o' + i * 3 + 2, none⟩ = some (.slice ga y3.length gc)) (first | go_keep | (go_split_ands; exact ⟨Ext.cellS hx' (by assumption), Ext.cellS hx' (by assumption), Ext.cellS hx' (by assumption), Ext.cellS hx' (by assumption), Ext.cellS hx' (by assumption), Ext.cellS hx' (by assumption), Ext.cellS hx' (by assumption), Ext.cellS hx' (by assumption)⟩)) ((go_at_call 56; go_must (refine (SameEvent_any _ S T x1 y1 x2 y2 _ _ x3 y3 (RdS.ext HFS.out (by (· repeat (first | (with_reducible assumption) | exact Ext.refl _ | refine Ext.alloc ?_ _ | refine Ext.drew ?_ | refine Ext.drewN ?_ _ | (apply Ext.snart; (with_reducible assumption)))))) (RdS.ext HGS.out (by (· repeat (first | (with_reducible assumption) | exact Ext.refl _ | refine Ext.alloc ?_ _ | refine Ext.drew ?_ | refine Ext.drewN ?_ _ | (apply Ext.snart; (with_reducible assumption))))))).mono ?_; rw [HD.out]; rintro e w' ⟨rfl, hb'⟩; have hx' := Ext.of hb'; clear hb')))
                all_goals
                  have hxx : Ext wr w' := by (· repeat (first | (with_reducible assumption) | exact Ext.refl _ | refine Ext.alloc ?_ _ | refine Ext.drew ?_ | refine Ext.drewN ?_ _ | (apply Ext.snart; (with_reducible assumption))))
                  go_wp2_with fail
                  go_ret
                  exact ⟨congrArg (fun b => Ending.returned (.bool b)) (decide_eq_false HNE.out).symm, HXW.out.trans (hx.trans hxx)⟩
            · obtain rfl : i = fs.length := by omega
              go_wp2_with fail
              go_ret
              refine ⟨?_, HXW.out.trans hx⟩
              have : fs = gs := by
                have := HE.out
                rwa [List.take_length, List.take_of_length_le (by have := HN.out; omega)] at this
              simp [this]
        · have hn' : ¬ (fs.length : Int) = (gs.length : Int) := by omega
          have HNE := hid (show ¬ ((s, k, m, fs) : Bat) = (s, k, m, gs) from fun e => by simp only [Prod.mk.injEq, true_and] at e; exact hn (by rw [e]))
          go_enter Try.func28, Try.ntmps28
          go_wp2_with fail
          go_ret
          exact ⟨congrArg (fun b => Ending.returned (.bool b)) (decide_eq_false HNE.out).symm, hxw⟩
      · have t2 : (m == n) = false := beq_eq_false_iff_ne.2 q3
        have HNE := hid (show ¬ ((s, k, m, fs) : Bat) = (t, l, n, gs) from fun e => by simp only [Prod.mk.injEq] at e; exact q3 e.2.2.1)
        subst q1 q2
        clear q3
        go_enter Try.func28, Try.ntmps28
        go_wp2_with fail
        go_ret
        exact ⟨congrArg (fun b => Ending.returned (.bool b)) (decide_eq_false HNE.out).symm, hxw⟩
    · have t2 := str_ff q2
      have HNE := hid (show ¬ ((s, k, m, fs) : Bat) = (t, l, n, gs) from fun e => by simp only [Prod.mk.injEq] at e; exact q2 e.2.1)
      subst q1
      clear q2
      go_enter Try.func28, Try.ntmps28
      go_wp2_with fail
      go_ret
      exact ⟨congrArg (fun b => Ending.returned (.bool b)) (decide_eq_false HNE.out).symm, hxw⟩
  · have t1 := str_ff q1
    have HNE := hid (show ¬ ((s, k, m, fs) : Bat) = (t, l, n, gs) from fun e => by simp only [Prod.mk.injEq] at e; exact q1 e.1)
    clear q1
    go_enter Try.func28, Try.ntmps28
    go_wp2_with fail
    go_ret
    exact ⟨congrArg (fun b => Ending.returned (.bool b)) (decide_eq_false HNE.out).symm, hxw⟩
end Go.Proofs.Ythobhkmphjnlaaa
