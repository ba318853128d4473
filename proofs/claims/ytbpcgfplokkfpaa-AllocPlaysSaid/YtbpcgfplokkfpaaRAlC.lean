/- The document's map: Give, walked. -/
import Derived.Test.YtbpcgfplokkfpaaRAlA
namespace Go.Proofs.Ytbpcgfplokkfpaa
open Go.RowKit
set_option linter.unusedVariables false
set_option linter.unusedSimpArgs false

set_option maxRecDepth 100000 in
set_option maxHeartbeats 2000000 in
theorem RGive_any (T : Nat → Prop) (w : World) (g : Nat) (now last : List Bool) (h : RMapAt T w g now last) (S : Nat → Prop) (lv : Value) (rs : List (Int × Int)) (hr : RdS rRn w S lv rs) :
    Calls Try.prog 35 #[.pointer (some ⟨g, 0, none⟩), lv] w fun e w' =>
      (∃ n, giveF now rs = some n ∧ e = .returned (.int .i64 0) ∧ RMapAt (Newer T w w') w' g n last ∧ Keep (fun k => ¬ T k) w w') ∨ (giveF now rs = none ∧ e = .returned (.int .i64 51) ∧ Ext w w') := by
  have H := hid h
  obtain ⟨vn, vl, h1, h2, h3, h4, h5, -⟩ := h
  have hg := (Array.getElem?_eq_some_iff.1 h1).1
  have c0 : w.cell? ⟨g, 0, none⟩ = some vn := (cell_of_row _ _ 0 _ _ _ h1).trans rfl
  have H2 := hid h2
  have H1 := hid h1
  obtain ⟨na, nc, rfl⟩ := h2.slice
  obtain ⟨la, lc, rfl, hl1, hl2⟩ := hr.slice
  have HR := hid hr
  obtain ⟨gs, hgs, hsrc, hall⟩ := (h2.rdT.ext ((Ext.refl w).alloc (.cells #[] 4))).src Try.underlying36
  have hgl : gs.length = now.length := by have := congrArg List.length hgs; rw [List.length_map] at this; omega
  have HMADE := hid (OwnS.made rBo 4 w (fun _ => False) (fun h => h))
  have HG := hid hgs
  have HGL := hid hgl
  have HSRC := hid hsrc
  have HALL := hid hall
  have hg2 : ¬ g = w.heap.size := by omega
  have hg3 : ¬ w.heap.size = g := by omega
  clear h1 h2 h3 h4 hr hgs hgl hsrc hall
  go_enter Try.func35, Try.ntmps35
  go_wp2_with (at_builtin; go_must (refine wl_appS rBo rfl _ _ _ _ _ _ 1 rfl Try.underlying36 infoBool rfl w.heap.size _ _ [] rfl HMADE.out _ gs rfl HSRC.out (fun p hp => rBo_free (HALL.out p hp)) (fun _ h => h.elim) (by rw [HGL.out]; simp only [List.length_nil, Nat.zero_add] <;> omega) (by rw [HGL.out]; simp only [List.length_nil, Nat.zero_add] <;> omega) (by simp only [heap_alloc_sz] <;> omega) ?_; intro v' w1 k1 k2 k3; rw [List.nil_append, ← HG.out] at k1; have hx := ((Ext.refl w).alloc (.cells #[] 4)).grown k2 (fun k hk => by cases hk; exact Nat.le_refl _); have HO := hid k1; have HX := hid hx; clear k1 k2 k3 hx; obtain ⟨a1, n1, rfl⟩ := HO.out.slice))
  clear c0 hg2 hg3
  go_loopw [6] (fun u18 wr => ∃ (i : Nat) (cur : List Bool), u18 = .int .i64 i ∧ i ≤ rs.length ∧ giveF now (rs.take i) = some cur ∧ OwnS rBo 4 wr w.heap.size (fun _ => False) (.slice a1 now.length n1) cur ∧ Ext w wr) (fun u18 _ => rs.length - (intOf u18).toNat)
  case atStart => exact ⟨0, now, rfl, by omega, rfl, HO.out, HX.out⟩
  case round =>
    obtain ⟨wo, rfl⟩ : ∃ wo : World, wo = wr := ⟨_, rfl⟩
    obtain ⟨i, cur, rfl, hi, hgv, ho, hx⟩ := hrel
    have hcl := giveF_len hgv
    have HGV := hid hgv
    have HCL := hid hcl
    have HO1 := hid ho
    have HX1 := hid hx
    have hsx := hx.size
    clear hgv hcl ho hx
    by_cases hlt : i < rs.length
    · obtain ⟨gr, orr, cr, cs, er, hgr, -, hcs, hcc, hrd⟩ := (HR.out.ext HX1.out).at i hlt
      simp only [Value.slice.injEq] at er
      obtain ⟨rfl, -, rfl⟩ := er
      have HTS := hid (List.take_succ_eq_append_getElem hlt)
      generalize hri : rs[i] = r at hrd HTS
      obtain ⟨rf, rl⟩ := r
      have hcells : cs = [.int .i64 rf, .int .i64 rl] ∧ (-9223372036854775808 ≤ rf ∧ rf ≤ 9223372036854775807) ∧ (-9223372036854775808 ≤ rl ∧ rl ≤ 9223372036854775807) := by
        obtain ⟨_, _, rfl, ⟨rfl, b1⟩, rfl, b2⟩ := hrd
        exact ⟨rfl, b1, b2⟩
      obtain ⟨rfl, ⟨b1, b2⟩, ⟨b3, b4⟩⟩ := hcells
      have d0 := hcc 0 _ rfl
      have d1 := hcc 1 _ rfl
      simp only [← Nat.add_assoc, Nat.add_zero, show rRn.size = 2 from rfl] at d0 d1
      clear hcc hrd hcs hri
      by_cases t1 : rl < 1
      · have hnone := give_bad HGV.out HTS.out (giveRun_out fun h => by unfold runIn at h; dsimp only at h; have := HCL.out; omega)
        have HN := hid hnone
        clear hnone
        go_wp2_with fail
        go_ret
        exact .inr ⟨HN.out, rfl, HX1.out.trans (show Ext wo _ by (· repeat (first | (with_reducible assumption) | exact Ext.refl _ | refine Ext.alloc ?_ _ | refine Ext.drew ?_ | refine Ext.drewN ?_ _ | (apply Ext.snart; (with_reducible assumption)))))⟩
      · by_cases t2 : (512 : Int) < rl
        · have hnone := give_bad HGV.out HTS.out (giveRun_out fun h => by unfold runIn at h; dsimp only at h; have := HCL.out; omega)
          have HN := hid hnone
          clear hnone
          go_wp2_with fail
          go_ret
          exact .inr ⟨HN.out, rfl, HX1.out.trans (show Ext wo _ by (· repeat (first | (with_reducible assumption) | exact Ext.refl _ | refine Ext.alloc ?_ _ | refine Ext.drew ?_ | refine Ext.drewN ?_ _ | (apply Ext.snart; (with_reducible assumption)))))⟩
        · by_cases t3 : rf < 0
          · have hnone := give_bad HGV.out HTS.out (giveRun_out fun h => by unfold runIn at h; dsimp only at h; have := HCL.out; omega)
            have HN := hid hnone
            clear hnone
            go_wp2_with fail
            go_ret
            exact .inr ⟨HN.out, rfl, HX1.out.trans (show Ext wo _ by (· repeat (first | (with_reducible assumption) | exact Ext.refl _ | refine Ext.alloc ?_ _ | refine Ext.drew ?_ | refine Ext.drewN ?_ _ | (apply Ext.snart; (with_reducible assumption)))))⟩
          · by_cases t4 : (512 : Int) < rf
            · have hnone := give_bad HGV.out HTS.out (giveRun_out fun h => by unfold runIn at h; dsimp only at h; have := HCL.out; omega)
              have HN := hid hnone
              clear hnone
              go_wp2_with fail
              go_ret
              exact .inr ⟨HN.out, rfl, HX1.out.trans (show Ext wo _ by (· repeat (first | (with_reducible assumption) | exact Ext.refl _ | refine Ext.alloc ?_ _ | refine Ext.drew ?_ | refine Ext.drewN ?_ _ | (apply Ext.snart; (with_reducible assumption)))))⟩
            · obtain ⟨a, rfl⟩ : ∃ a : Nat, rf = (a : Int) := ⟨rf.toNat, by omega⟩
              obtain ⟨k, rfl⟩ : ∃ k : Nat, rl = (k : Int) := ⟨rl.toNat, by omega⟩
              have hak : a ≤ 512 ∧ 1 ≤ k ∧ k ≤ 512 := by omega
              go_upto_region 8 with fail
              obtain ⟨gB, hgB⟩ : ∃ gB, gB = wo.heap.size := ⟨_, rfl⟩
              have hnew := heap_alloc_new wo (.cells #[.int .i64 (a : Int), .int .i64 (k : Int)] 43)
              have hxa : Ext wo (wo.alloc (.cells #[.int .i64 (a : Int), .int .i64 (k : Int)] 43)) := (Ext.refl wo).alloc _
              have hsa : (wo.alloc (.cells #[.int .i64 (a : Int), .int .i64 (k : Int)] 43)).heap.size = wo.heap.size + 1 := by simp
              rw [← hgB] at hnew hsa ⊢
              generalize (wo.alloc (.cells #[.int .i64 (a : Int), .int .i64 (k : Int)] 43)) = wa at hnew hxa hsa ⊢
              have c1 : wa.cell? ⟨gB, 1, none⟩ = some (.int .i64 (k : Int)) := (cell_of_row _ _ 1 _ _ _ hnew).trans rfl
              have HNEW := hid hnew
              have HXA := hid hxa
              have HGB := hid hgB
              have HOA := hid (HO1.out.ext hxa)
              clear hnew hxa hsa hgB d0 d1
              go_wp2_with fail
              go_loopw [8] (fun u49 wr2 => ∃ j : Nat, u49 = .int .i64 j ∧ j ≤ k ∧ (∀ q, q < j → cur.getD (a + q) false = true) ∧ OwnS rBo 4 wr2 w.heap.size (fun _ => False) (.slice a1 now.length n1) (clr cur a j) ∧ Ext w wr2 ∧ wr2.heap[gB]? = some (.cells #[.int .i64 (a : Int), .int .i64 (k : Int)] 43 (0, 0))) (fun u49 _ => k - (intOf u49).toNat)
              case atStart => exact ⟨0, rfl, by omega, fun q hq => by omega, HOA.out, HX1.out.trans HXA.out, HNEW.out⟩
              case round =>
                obtain ⟨w2, rfl⟩ : ∃ w2 : World, w2 = wr := ⟨_, rfl⟩
                obtain ⟨j, rfl, hj, hq, ho2, hx2, hrow⟩ := hrel
                have HQ := hid hq
                have HO2 := hid ho2
                have HX2 := hid hx2
                have HROW := hid hrow
                have hcl := HCL.out
                clear hq hx2 
                by_cases hjk : j < k
                · by_cases hal : a + j < now.length
                  · have hcll := clr_len cur a j
                    obtain ⟨g1, cc1, cu1, e1, hb1, hg1, hr1⟩ := ho2.head1 (by omega)
                    obtain ⟨g2, o2, cc2, e2, hg2, -, z2⟩ := ho2.rdT.atB (a + j) (by omega)
                    rw [hcll, hcl] at e1 e2
                    simp only [Value.slice.injEq] at e1 e2
                    obtain ⟨rfl, -, rfl⟩ := e1
                    obtain ⟨e2, -, -⟩ := e2
                    simp only [Option.some.injEq, Addr.mk.injEq] at e2
                    obtain ⟨rfl, rfl, -⟩ := e2
                    rw [Nat.zero_add] at z2
                    have hv : (clr cur a j)[a + j]'(by omega) = cur.getD (a + j) false := by
                      have h1 := clr_get cur a j (a + j) (Nat.le_refl _)
                      rw [List.getD_eq_getElem?_getD, ← h1, List.getElem?_eq_getElem (by omega)]; rfl
                    rw [hv] at z2
                    have q0 : w2.cell? ⟨gB, 0, none⟩ = some (.int .i64 (a : Int)) := (cell_of_row _ _ 0 _ _ _ hrow).trans rfl
                    have q1 : w2.cell? ⟨gB, 1, none⟩ = some (.int .i64 (k : Int)) := (cell_of_row _ _ 1 _ _ _ hrow).trans rfl
                    have f1 := frozen_blk hr1 (a + j)
                    have haj : a + j < now.length := by omega
                    have hne : g1 ≠ gB := fun e => by
                      subst e
                      rw [hr1] at hrow
                      simp at hrow
                    cases hb : cur.getD (a + j) false with
                    | true =>
                      rw [hb] at z2
                      have HB := hid hb
                      have HR1 := hid hr1
                      clear hb hv hrow ho2 hr1 hcll hcl
                      go_wp2_with fail
                      go_roundw
                      case rel =>
                        refine ⟨j + 1, by go_num, by omega, fun q hq => ?_, HO2.out.set1 rfl (a + j) (by have := clr_len cur a j; have := HCL.out; omega) _ false rfl, HX2.out.setCell (p := ⟨g1, a + j, none⟩) hb1 _, (Below.heap_setCell w2 ⟨g1, a + j, none⟩ _ gB (fun e => hne e.symm)).trans HROW.out⟩
                        rcases Nat.lt_or_ge q j with h | h
                        · exact HQ.out q h
                        · obtain rfl : q = j := by omega
                          exact HB.out
                      case measure => simp [intOf]; omega
                    | false =>
                      rw [hb] at z2
                      have hnone := give_bad HGV.out HTS.out (show giveRun cur ((a : Int), (k : Int)) = none from if_neg fun h => by
                        have h2 := List.all_eq_true.1 h.2 (a + j) (by simp only [Int.toNat_natCast]; exact List.mem_range'.2 ⟨j, by omega, by omega⟩)
                        rw [hb] at h2; cases h2)
                      have HN := hid hnone
                      clear hnone hb hv hrow ho2 hr1 hcll hcl
                      go_wp2_with fail
                      go_ret
                      exact .inr ⟨HN.out, rfl, HX2.out⟩
                  · have hnone := give_bad HGV.out HTS.out (giveRun_out fun h => by unfold runIn at h; dsimp only at h; omega)
                    have HN := hid hnone
                    have q0 : w2.cell? ⟨gB, 0, none⟩ = some (.int .i64 (a : Int)) := (cell_of_row _ _ 0 _ _ _ hrow).trans rfl
                    have q1 : w2.cell? ⟨gB, 1, none⟩ = some (.int .i64 (k : Int)) := (cell_of_row _ _ 1 _ _ _ hrow).trans rfl
                    clear hnone hrow ho2 hcl
                    go_wp2_with fail
                    go_ret
                    exact .inr ⟨HN.out, rfl, HX2.out⟩
                · obtain rfl : j = k := by omega
                  have hend : a + j ≤ cur.length := by
                    rcases Nat.lt_or_ge (a + (j - 1)) cur.length with h | h
                    · omega
                    · have h2 := HQ.out (j - 1) (by omega)
                      rw [List.getD_eq_getElem?_getD, List.getElem?_eq_none h] at h2
                      cases h2
                  have hrun : giveRun cur ((a : Int), (j : Int)) = some (clr cur a j) := by
                    unfold giveRun
                    simp only [Int.toNat_natCast]
                    refine if_pos ⟨by unfold runIn; dsimp only; omega, List.all_eq_true.2 fun x hx => ?_⟩
                    obtain ⟨q, hq, rfl⟩ := List.mem_range'.1 hx
                    rw [Nat.one_mul]
                    exact HQ.out q hq
                  have HRUN := hid hrun
                  have q1 : w2.cell? ⟨gB, 1, none⟩ = some (.int .i64 (j : Int)) := (cell_of_row _ _ 1 _ _ _ hrow).trans rfl
                  clear hrun hrow ho2 hcl
                  go_wp2_with fail
                  go_roundw
                  case rel => exact ⟨i + 1, clr cur a j, by go_num, by omega, by rw [HTS.out, giveF_snoc, HGV.out]; exact HRUN.out, HO2.out, HX2.out⟩
                  case measure => simp [intOf]; omega
    · obtain rfl : i = rs.length := by omega
      have hgv := HGV.out
      rw [List.take_length] at hgv
      have c0 : wo.cell? ⟨g, 0, none⟩ = some (.slice na now.length nc) := (cell_of_row _ _ 0 _ _ _ ((Below.block HX1.out g hg).trans H1.out)).trans rfl
      have f0 := frozen_blk ((Below.block HX1.out g hg).trans H1.out) 0
      have HG := hid hgv
      clear hgv
      go_wp2_with fail
      go_ret
      obtain ⟨q1, q2⟩ := H.out.putNow HX1.out (show OwnS rBo 4 wo w.heap.size (fun _ => False) (.slice a1 now.length n1) cur from HO1.out) HCL.out
      exact .inl ⟨cur, HG.out, rfl, q1, q2⟩
end Go.Proofs.Ytbpcgfplokkfpaa
