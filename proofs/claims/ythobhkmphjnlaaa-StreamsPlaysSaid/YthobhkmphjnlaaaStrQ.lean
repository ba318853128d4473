/- The reference's SameEntries, walked. -/
import Derived.Test.YthobhkmphjnlaaaStrP
import Derived.Test.YthobhkmphjnlaaaSameE
namespace Go.Proofs.Ythobhkmphjnlaaa
open Go.RowKit
set_option linter.unusedVariables false
set_option linter.unusedSimpArgs false

instance decEnt : DecidableEq Ent := inferInstance
instance decEnts : DecidableEq (List Ent) := inferInstance
theorem RdS.atEnt {w : World} {S : Nat → Prop} {v : Value} {es : List Ent} (h : RdS rEnt w S v es) (i : Nat) (hi : i < es.length) :
    ∃ g o cap fv, v = .slice (some ⟨g, o, none⟩) es.length cap ∧ g < w.heap.size ∧ w.cell? ⟨g, o + i * 6, none⟩ = some (.int .i64 es[i].1) ∧ w.cell? ⟨g, o + i * 6 + 1, none⟩ = some (.string es[i].2.1) ∧ w.cell? ⟨g, o + i * 6 + 2, none⟩ = some (.int .i64 es[i].2.2.1) ∧
      w.cell? ⟨g, o + i * 6 + 3, none⟩ = some (.string es[i].2.2.2.1) ∧ w.cell? ⟨g, o + i * 6 + 4, none⟩ = some (.int .i64 es[i].2.2.2.2.1) ∧ w.cell? ⟨g, o + i * 6 + 5, none⟩ = some fv ∧ RdS rF w S fv es[i].2.2.2.2.2 := by
  obtain ⟨g, o, cap, cs, rfl, hg, hS, _, hc, hr⟩ := h.at i hi
  obtain ⟨fv, rfl, h3⟩ := rEnt_cells hr
  refine ⟨g, o, cap, fv, rfl, hg, hc 0 _ rfl, ?_, ?_, ?_, ?_, ?_, h3⟩
  · rw [Nat.add_assoc]; exact hc 1 _ rfl
  · rw [Nat.add_assoc]; exact hc 2 _ rfl
  · rw [Nat.add_assoc]; exact hc 3 _ rfl
  · rw [Nat.add_assoc]; exact hc 4 _ rfl
  · rw [Nat.add_assoc]; exact hc 5 _ rfl
theorem ent_ne {f g : Ent} (h : f ≠ g) (he : f.2.2.2 = g.2.2.2) : ((f.1 == g.1) = false ∧ (f.1 != g.1) = true) ∨ (((f.1 == g.1) = true ∧ (f.1 != g.1) = false) ∧ (f.2.1.toList == g.2.1.toList) = false) ∨ (((f.1 == g.1) = true ∧ (f.1 != g.1) = false) ∧ (f.2.1.toList == g.2.1.toList) = true ∧ (f.2.2.1 == g.2.2.1) = false ∧ (f.2.2.1 != g.2.2.1) = true) := by
  by_cases h1 : f.1 = g.1
  · by_cases h2 : f.2.1 = g.2.1
    · by_cases h3 : f.2.2.1 = g.2.2.1
      · exact absurd (Prod.ext h1 (Prod.ext h2 (Prod.ext h3 he))) h
      · exact .inr (.inr ⟨⟨by simp [h1], by simp [h1]⟩, str_tt h2, by simp [h3], by simp [h3]⟩)
    · exact .inr (.inl ⟨⟨by simp [h1], by simp [h1]⟩, str_ff h2⟩)
  · exact .inl ⟨by simp [h1], by simp [h1]⟩

set_option maxRecDepth 100000 in
set_option maxHeartbeats 2000000 in
theorem SameEntries_any (w : World) (S T : Nat → Prop) (va vb : Value) (fs gs : List Ent) (ha : RdS rEnt w S va fs) (hb : RdS rEnt w T vb gs) :
    Calls Try.prog 26 #[va, vb] w fun e w' => e = .returned (.bool (decide (fs = gs))) ∧ Ext w w' := by
  have HA := hid ha
  have HB := hid hb
  obtain ⟨a, cap, rfl, h1, h2⟩ := ha.slice
  obtain ⟨b, capb, rfl, k1, k2⟩ := hb.slice
  clear ha hb
  by_cases hn : fs.length = gs.length
  · have HN := hid hn
    have hn' : (fs.length : Int) = (gs.length : Int) := by omega
    have hn'' : decide ((fs.length : Int) = (gs.length : Int)) = true := by simp [hn]
    clear hn
    go_enter Try.func26, Try.ntmps26
    go_wp2_with fail
    go_loopw [5, 6] (fun u5 u6 wr => ∃ i : Nat, i ≤ fs.length ∧ u5 = .int .i64 i ∧ fs.take i = gs.take i ∧ Ext w wr) (fun i _ _ => fs.length - (intOf i).toNat)
    case atStart => exact ⟨0, by omega, rfl, rfl, Ext.refl _⟩
    case round =>
      obtain ⟨i, hi, rfl, heq, hx⟩ := hrel
      have HE := hid heq
      clear heq
      by_cases hl : i < fs.length
      · have hl' : i < gs.length := by have := HN.out; omega
        obtain ⟨g, o, c1, fv, e, hg, e0, e1, e2, e3, e4, e5, hfs⟩ := (HA.out.ext hx).atEnt i hl
        simp only [Value.slice.injEq] at e
        obtain ⟨rfl, -, rfl⟩ := e
        obtain ⟨g', o', c2', gv, e, hg', f0, f1, f2, f3, f4, f5, hgs⟩ := (HB.out.ext hx).atEnt i hl'
        simp only [Value.slice.injEq] at e
        obtain ⟨rfl, -, rfl⟩ := e
        have T1 := hid (List.take_succ_eq_append_getElem hl)
        have T2 := hid (List.take_succ_eq_append_getElem hl')
        obtain ⟨x, hx'⟩ : ∃ x, x = fs[i] := ⟨_, rfl⟩
        obtain ⟨y, hy⟩ : ∃ y, y = gs[i] := ⟨_, rfl⟩
        rw [← hx'] at e0 e1 e2 e3 e4 hfs T1
        rw [← hy] at f0 f1 f2 f3 f4 hgs T2
        have HX := hid hx'
        have HY := hid hy
        clear hx' hy
        have i1 : (i : Int) < (fs.length : Int) := by omega
        have i2 : (i : Int) < (gs.length : Int) := by omega
        have i3 : (0 : Int) ≤ (i : Int) := by omega
        obtain ⟨fa, fc, rfl, -⟩ := hfs.slice
        obtain ⟨ga, gc, rfl, -⟩ := hgs.slice
        have HFS := hid hfs
        have HGS := hid hgs
        clear hfs hgs
        obtain ⟨B, hB⟩ : ∃ B, B = decide (x.2.2.2 = y.2.2.2) := ⟨_, rfl⟩
        have HBB := hid hB
        clear hB
        go_wp2_with fail
        go_region_held3 (fun w' => w'.cell? ⟨g, o + i * 6 + 3, none⟩ = some (.string x.2.2.2.1) ∧ w'.cell? ⟨g, o + i * 6 + 4, none⟩ = some (.int .i64 x.2.2.2.2.1) ∧ w'.cell? ⟨g, o + i * 6 + 5, none⟩ = some (.slice fa x.2.2.2.2.2.length fc) ∧ w'.cell? ⟨g', o' + i * 6 + 3, none⟩ = some (.string y.2.2.2.1) ∧ w'.cell? ⟨g', o' + i * 6 + 4, none⟩ = some (.int .i64 y.2.2.2.2.1) ∧ w'.cell? ⟨g', o' + i * 6 + 5, none⟩ = some (.slice ga y.2.2.2.2.2.length gc)) (first | go_keep | (go_split_ands; exact ⟨Ext.cellS hx' (by assumption), Ext.cellS hx' (by assumption), Ext.cellS hx' (by assumption), Ext.cellS hx' (by assumption), Ext.cellS hx' (by assumption), Ext.cellS hx' (by assumption)⟩)) ((go_at_call 56; go_must (refine (SameEvent_any _ S T x.2.2.2.1 y.2.2.2.1 x.2.2.2.2.1 y.2.2.2.2.1 _ _ x.2.2.2.2.2 y.2.2.2.2.2 (RdS.ext HFS.out (by (· repeat (first | (with_reducible assumption) | exact Ext.refl _ | refine Ext.alloc ?_ _ | refine Ext.drew ?_ | refine Ext.drewN ?_ _ | (apply Ext.snart; (with_reducible assumption)))))) (RdS.ext HGS.out (by (· repeat (first | (with_reducible assumption) | exact Ext.refl _ | refine Ext.alloc ?_ _ | refine Ext.drew ?_ | refine Ext.drewN ?_ _ | (apply Ext.snart; (with_reducible assumption))))))).mono ?_; rw [← HBB.out]; rintro e w' ⟨rfl, hb'⟩; have hx' := Ext.of hb'; clear hb')))
        all_goals
          have hxx : Ext wr w' := by (· repeat (first | (with_reducible assumption) | exact Ext.refl _ | refine Ext.alloc ?_ _ | refine Ext.drew ?_ | refine Ext.drewN ?_ _ | (apply Ext.snart; (with_reducible assumption))))
          have HX2 := hid hxx
          replace e0 := hxx.cellS e0
          replace e1 := hxx.cellS e1
          replace e2 := hxx.cellS e2
          replace f0 := hxx.cellS f0
          replace f1 := hxx.cellS f1
          replace f2 := hxx.cellS f2
          clear e3 e4 e5 f3 f4 f5 hxx
          by_cases q : x = y
          · have hB : B = true := HBB.out.trans (decide_eq_true (by rw [q]))
            subst q hB
            clear HBB
            go_wp2_with fail
            go_quiet (fail)
            go_wp2_with fail
            go_roundw
            case rel => exact ⟨i + 1, by omega, by go_num, by rw [T1.out, T2.out, HE.out], (hx.trans HX2.out).drewN _⟩
            case measure => simp [intOf]; omega
          · have HNE := hid (show ¬ fs = gs from fun e => by
              subst e
              exact q (HX.out.trans HY.out.symm))
            have hq : B = false ∨ B = true ∧ (((x.1 == y.1) = false ∧ (x.1 != y.1) = true) ∨ (((x.1 == y.1) = true ∧ (x.1 != y.1) = false) ∧ (x.2.1.toList == y.2.1.toList) = false) ∨ (((x.1 == y.1) = true ∧ (x.1 != y.1) = false) ∧ (x.2.1.toList == y.2.1.toList) = true ∧ (x.2.2.1 == y.2.2.1) = false ∧ (x.2.2.1 != y.2.2.1) = true)) := by
              by_cases he : x.2.2.2 = y.2.2.2
              · exact .inr ⟨HBB.out.trans (decide_eq_true he), ent_ne q he⟩
              · exact .inl (HBB.out.trans (decide_eq_false he))
            clear q HBB
            rcases hq with rfl | ⟨rfl, ⟨z1, z1'⟩ | ⟨⟨z1, z1'⟩, z2⟩ | ⟨⟨z1, z1'⟩, z2, z3, z3'⟩⟩
            all_goals
              go_wp2_with fail
              go_quiet (fail)
              go_wp2_with fail
              go_ret
              exact ⟨congrArg (fun b => Ending.returned (.bool b)) (decide_eq_false HNE.out).symm, (hx.trans HX2.out).drewN _⟩
      · obtain rfl : i = fs.length := by omega
        go_wp2_with fail
        go_ret
        refine ⟨?_, hx⟩
        have : fs = gs := by
          have := HE.out
          rwa [List.take_length, List.take_of_length_le (by have := HN.out; omega)] at this
        simp [this]
  · have hn' : ¬ (fs.length : Int) = (gs.length : Int) := by omega
    have HNE := hid (show ¬ fs = gs from fun e => hn (by rw [e]))
    go_enter Try.func26, Try.ntmps26
    go_wp2_with fail
    go_ret
    exact ⟨congrArg (fun b => Ending.returned (.bool b)) (decide_eq_false HNE.out).symm, Ext.refl _⟩
end Go.Proofs.Ythobhkmphjnlaaa
