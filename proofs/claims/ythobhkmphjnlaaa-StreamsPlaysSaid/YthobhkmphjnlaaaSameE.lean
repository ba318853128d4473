/- The reference's SameEvent and SameBatch, walked. -/
import Derived.Test.YthobhkmphjnlaaaRCheck
import Derived.Laws.StructEq
import Derived.Deep.QuietTactic
import Derived.BigQuiet
namespace Go.Proofs.Ythobhkmphjnlaaa
open Go.RowKit
set_option linter.unusedVariables false
set_option linter.unusedSimpArgs false

instance decFlds : DecidableEq (List Fld) := inferInstance
instance decEv : DecidableEq Ev := inferInstance
instance decEvs : DecidableEq (List Ev) := inferInstance
instance decEvs1 : DecidableEq (Int × List Ev) := inferInstance
instance decBat : DecidableEq Bat := inferInstance
theorem str_tt {a b : ByteArray} (h : a = b) : (a.toList == b.toList) = true := by rw [str_eqq]; exact decide_eq_true h
theorem str_ff {a b : ByteArray} (h : a ≠ b) : (a.toList == b.toList) = false := by rw [str_eqq]; exact decide_eq_false h
theorem fld_ne {f g : Fld} (h : f ≠ g) : (f.1.toList == g.1.toList) = false ∨ (f.2.1 == g.2.1) = false ∨ (f.2.2.1 == g.2.2.1) = false ∨ (f.2.2.2.toList == g.2.2.2.toList) = false := by
  by_cases h1 : f.1 = g.1
  · by_cases h2 : f.2.1 = g.2.1
    · by_cases h3 : f.2.2.1 = g.2.2.1
      · by_cases h4 : f.2.2.2 = g.2.2.2
        · exact absurd (Prod.ext h1 (Prod.ext h2 (Prod.ext h3 h4))) h
        · exact .inr (.inr (.inr (str_ff h4)))
      · exact .inr (.inr (.inl (beq_eq_false_iff_ne.2 h3)))
    · exact .inr (.inl (beq_eq_false_iff_ne.2 h2))
  · exact .inl (str_ff h1)

set_option maxRecDepth 100000 in
set_option maxHeartbeats 2000000 in
theorem SameEvent_any (w : World) (S T : Nat → Prop) (s t : ByteArray) (m n : Int) (va vb : Value) (fs gs : List Fld) (ha : RdS rF w S va fs) (hb : RdS rF w T vb gs) :
    Calls Try.prog 56 #[.agg #[.string s, .int .i64 m, va], .agg #[.string t, .int .i64 n, vb]] w fun e w' => e = .returned (.bool (decide (((s, m, fs) : Ev) = (t, n, gs)))) ∧ Below w.heap.size w w' := by
  have HA := hid ha
  have HB := hid hb
  obtain ⟨a, cap, rfl, h1, h2⟩ := ha.slice
  obtain ⟨b, capb, rfl, k1, k2⟩ := hb.slice
  clear ha hb
  have hxw : Ext w ((w.alloc (.cells #[.string s, .int .i64 m, .slice a fs.length cap] 46)).alloc (.cells #[.string t, .int .i64 n, .slice b gs.length capb] 46)) := ((Ext.refl w).alloc _).alloc _
  by_cases q1 : s = t
  · by_cases q2 : m = n
    · subst q1 q2
      by_cases hn : fs.length = gs.length
      · have HN := hid hn
        have hn' : (fs.length : Int) = (gs.length : Int) := by omega
        have hn'' : decide ((fs.length : Int) = (gs.length : Int)) = true := by simp [hn]
        clear hn
        go_enter Try.func56, Try.ntmps56
        go_wp2_with fail
        have c2 : ((w.alloc (.cells #[.string s, .int .i64 m, .slice a fs.length cap] 46)).alloc (.cells #[.string s, .int .i64 m, .slice b gs.length capb] 46)).cell? ⟨w.heap.size, 2, none⟩ = some (.slice a fs.length cap) := by simp [go_sem]
        have d2 : ((w.alloc (.cells #[.string s, .int .i64 m, .slice a fs.length cap] 46)).alloc (.cells #[.string s, .int .i64 m, .slice b gs.length capb] 46)).cell? ⟨w.heap.size + 1, 2, none⟩ = some (.slice b gs.length capb) := by simp [go_sem]
        obtain ⟨wa, hwa⟩ : ∃ wa, wa = ((w.alloc (.cells #[.string s, .int .i64 m, .slice a fs.length cap] 46)).alloc (.cells #[.string s, .int .i64 m, .slice b gs.length capb] 46)) := ⟨_, rfl⟩
        rw [← hwa] at c2 d2 hxw ⊢
        clear hwa
        have C2 := hid c2
        have D2 := hid d2
        have HXW := hid hxw
        clear c2 d2 hxw
        go_loopw [5] (fun i wr => ∃ k : Nat, k ≤ fs.length ∧ i = .int .i64 k ∧ fs.take k = gs.take k ∧ Ext wa wr) (fun i _ => fs.length - (intOf i).toNat)
        case atStart => exact ⟨0, by omega, rfl, rfl, Ext.refl _⟩
        case round =>
          obtain ⟨k, hk, rfl, heq, hx⟩ := hrel
          have HE := hid heq
          clear heq
          have c2 := Ext.cellS hx C2.out
          have d2 := Ext.cellS hx D2.out
          by_cases hl : k < fs.length
          · have hl' : k < gs.length := by have := HN.out; omega
            obtain ⟨g, o, c1, e, hg, -, e0, e1, e2, e3, -⟩ := (HA.out.ext (HXW.out.trans hx)).atF k hl
            simp only [Value.slice.injEq] at e
            obtain ⟨rfl, -, rfl⟩ := e
            obtain ⟨g', o', c2', e, hg', -, f0, f1, f2, f3, -⟩ := (HB.out.ext (HXW.out.trans hx)).atF k hl'
            simp only [Value.slice.injEq] at e
            obtain ⟨rfl, -, rfl⟩ := e
            have T1 := hid (List.take_succ_eq_append_getElem hl)
            have T2 := hid (List.take_succ_eq_append_getElem hl')
            obtain ⟨x, hx'⟩ : ∃ x, x = fs[k] := ⟨_, rfl⟩
            obtain ⟨y, hy⟩ : ∃ y, y = gs[k] := ⟨_, rfl⟩
            rw [← hx'] at e0 e1 e2 e3 T1
            rw [← hy] at f0 f1 f2 f3 T2
            have HX := hid hx'
            have HY := hid hy
            clear hx' hy
            have i1 : (k : Int) < (fs.length : Int) := by omega
            have i2 : (k : Int) < (gs.length : Int) := by omega
            have i3 : (0 : Int) ≤ (k : Int) := by omega
            by_cases q : x = y
            · subst q
              obtain ⟨x1, x2, x3, x4⟩ := x
              dsimp only at e0 e1 e2 e3 f0 f1 f2 f3
              go_wp2_with fail
              go_quiet (fail)
              go_wp2_with fail
              go_roundw
              case rel => exact ⟨k + 1, by omega, by go_num, by rw [T1.out, T2.out, HE.out], hx.drewN _⟩
              case measure => simp [intOf]; omega
            · have HNE := hid (show ¬ (s, m, fs) = (s, m, gs) from fun e => by
                simp only [Prod.mk.injEq, true_and] at e
                subst e
                exact q (HX.out.trans HY.out.symm))
              have hq := fld_ne q
              obtain ⟨x1, x2, x3, x4⟩ := x
              obtain ⟨y1, y2, y3, y4⟩ := y
              dsimp only at e0 e1 e2 e3 f0 f1 f2 f3 hq
              clear q
              rcases hq with hq | hq | hq | hq
              all_goals
                go_wp2_with fail
                go_quiet (fail)
                go_wp2_with fail
                go_ret
                refine ⟨?_, HXW.out.trans (hx.drewN _)⟩
                exact congrArg (fun b => Ending.returned (.bool b)) (decide_eq_false HNE.out).symm
          · obtain rfl : k = fs.length := by omega
            go_wp2_with fail
            go_ret
            refine ⟨?_, HXW.out.trans hx⟩
            have : fs = gs := by
              have := HE.out
              rwa [List.take_length, List.take_of_length_le (by have := HN.out; omega)] at this
            simp [this]
      · have hn' : ¬ (fs.length : Int) = (gs.length : Int) := by omega
        go_enter Try.func56, Try.ntmps56
        go_wp2_with fail
        go_ret
        have : ¬ fs = gs := fun e => hn (by rw [e])
        exact ⟨by simp [this], hxw⟩
    · have t2 : (m == n) = false := beq_eq_false_iff_ne.2 q2
      have HNE := hid (show ¬ (s, m, fs) = (t, n, gs) from fun e => by simp only [Prod.mk.injEq] at e; exact q2 e.2.1)
      subst q1
      clear q2
      go_enter Try.func56, Try.ntmps56
      go_wp2_with fail
      go_ret
      exact ⟨congrArg (fun b => Ending.returned (.bool b)) (decide_eq_false HNE.out).symm, hxw⟩
  · have t1 := str_ff q1
    have HNE := hid (show ¬ (s, m, fs) = (t, n, gs) from fun e => by simp only [Prod.mk.injEq] at e; exact q1 e.1)
    clear q1
    go_enter Try.func56, Try.ntmps56
    go_wp2_with fail
    go_ret
    exact ⟨congrArg (fun b => Ending.returned (.bool b)) (decide_eq_false HNE.out).symm, hxw⟩
end Go.Proofs.Ythobhkmphjnlaaa
