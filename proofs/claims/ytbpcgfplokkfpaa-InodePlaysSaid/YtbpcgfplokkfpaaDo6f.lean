/- The inode laws' do: Extend. -/
import Derived.Test.YtbpcgfplokkfpaaDo6e
namespace Go.Proofs.Ytbpcgfplokkfpaa
open Go.RowKit
set_option linter.unusedVariables false
set_option linter.unusedSimpArgs false

section
variable (w : World) (g g' : Nat) (q q' : Option Nat) (s n : Int) (L : List Int) (lv : Value) (two : Bool) (ls : List Run)

set_option maxRecDepth 100000 in
set_option maxHeartbeats 4000000 in
theorem do6_ext7 (h : Pair6 w g g' q q' s L) (hn : -9223372036854775808 ≤ n ∧ n ≤ 9223372036854775807) (hl : RdR w lv ls) (hlo : ∀ r ∈ ls, RunOk r) (hl16 : ls.length * 16 ≤ 140737488351232) :
    Calls Try.prog 48 #[.pointer (some ⟨g, 0, none⟩), .pointer (some ⟨g', 0, none⟩), .agg #[.int .i64 7, .int .i64 n, lv, .bool two]] w (Do6End w g g' q q') := by
  have H := hid h
  have hgw := h.node.lt
  have hgw' := h.rnode.lt
  have hne := h.ne
  have hs1 := h.ok.lo
  have hs2 := h.ok.hi
  obtain ⟨al, cl, rfl, hcl1, hcl2⟩ := hl.slice
  have HL := hid hl
  have HLO := hid hlo
  have hxa : Ext w (w.alloc (.cells #[.int .i64 7, .int .i64 n, .slice al ls.length cl, .bool two] 74)) := (Ext.refl w).alloc _
  have c0 : (w.alloc (.cells #[.int .i64 7, .int .i64 n, .slice al ls.length cl, .bool two] 74)).cell? ⟨w.heap.size, 0, none⟩ = some (.int .i64 7) := by simp [go_sem]
  have c1 : (w.alloc (.cells #[.int .i64 7, .int .i64 n, .slice al ls.length cl, .bool two] 74)).cell? ⟨w.heap.size, 1, none⟩ = some (.int .i64 n) := by simp [go_sem]
  have c2 : (w.alloc (.cells #[.int .i64 7, .int .i64 n, .slice al ls.length cl, .bool two] 74)).cell? ⟨w.heap.size, 2, none⟩ = some (.slice al ls.length cl) := by simp [go_sem]
  have hsa : (w.alloc (.cells #[.int .i64 7, .int .i64 n, .slice al ls.length cl, .bool two] 74)).heap.size = w.heap.size + 1 := by simp
  have HC0 := hid c0
  have HC1 := hid c1
  have HC2 := hid c2
  have HSA := hid hsa
  have HM := hid (show OwnR ((w.alloc (.cells #[.int .i64 7, .int .i64 n, .slice al ls.length cl, .bool two] 74)).alloc (.cells #[] 43)) (w.heap.size + 1) (.slice (some ⟨w.heap.size + 1, 0, none⟩) 0 0) [] by have := own_madeR (w.alloc (.cells #[.int .i64 7, .int .i64 n, .slice al ls.length cl, .bool two] 74)); rw [hsa] at this; exact this)
  clear hsa c0 c1 c2
  obtain ⟨nd, er, hne0, hnd⟩ : ∃ nd er, needF s n = (nd, er) ∧ 0 ≤ nd ∧ nd ≤ 64 := by
    unfold needF
    by_cases h1 : n < 0
    · rw [if_pos h1]; exact ⟨0, 1, rfl, by omega, by omega⟩
    rw [if_neg h1]
    by_cases h2 : 32768 - s < n
    · rw [if_pos h2]; exact ⟨0, 60, rfl, by omega, by omega⟩
    · rw [if_neg h2]
      have b1 := nb_lo hs1
      have b2 := nb_mono (show s ≤ s + n by omega)
      have b3 := nb_hi (show s + n ≤ 32768 by omega)
      exact ⟨_, _, rfl, by omega, by omega⟩
  have HNE := hid hne0
  obtain ⟨hnd0, hnd64⟩ := hnd
  clear h hl hlo hne0
  have hcase : nd = 0 ∨ (0 < nd ∧ ls.length = 0) ∨ (0 < nd ∧ 0 < ls.length) := by omega
  have hcase2 : nd = 0 ∨ (0 < nd ∧ ¬ 0 < ls.length) ∨ (0 < nd ∧ 0 < ls.length) := by
    rcases hcase with h | ⟨h, h2⟩ | h
    · exact .inl h
    · exact .inr (.inl ⟨h, by omega⟩)
    · exact .inr (.inr h)
  clear hcase
  rcases hcase2 with rfl | ⟨hnp, hl0⟩ | ⟨hnp, hpos⟩
  iterate 2
    · try have hdn := decide_eq_true hnp
      go_enter Try.func48, Try.ntmps48
      go_wp2_with (first | (go_at_call 41; go_must (refine (nodeExtend_any _ g q s n L (H.out.node.ext (hxa.trans HXL.out)) H.out.ok hn _ [] HLW.out.rd HXO.out).mono ?_; intro e w1 he; obtain ⟨q1, rfl, HN1, hk1, hq1⟩ := ext_both he; clear he; have HN1' := hid HN1; have HQ1 := hid hq1; have e1 := hk1.cell d1 (by show w.heap.size ≠ g; omega); clear HN1 hq1)) | (go_at_call 69; go_must (refine (rExtend_any _ g' q' s n L ((H.out.rnode.ext (hxa.trans HXL.out)).keep hk1 (fun e => hne e.symm) (fun k hk e => H.out.qne' (by rw [hk, e]))) H.out.ok hn _ [] (HLW.out.keep hk1 (fun k hk => by have := (HLW.out.lt k hk).1; omega)).rd HXO.out).mono ?_; rintro e w2 ⟨rfl, q2, HN2, hk2, hq2⟩; have HN2' := hid HN2; have HQ2 := hid hq2; clear HN2 hq2)) | (go_at_call 68; go_must (refine (rNeed_any _ g' q' s n L (H.out.rnode.ext (hxa.trans HXK.out)) ⟨hs1, hs2⟩ hn).mono ?_; rw [HNE.out]; rintro e w5 ⟨rfl, hb5⟩; have HX5 := hid (HXK.out.trans (Ext.of hb5)); clear dk0 dk1; have d1 := HX5.out.cellS HC1.out; have d2 := HX5.out.cellS HC2.out; have hz5 := HX5.out.size; clear hb5; have HXL := HX5; have HLW := hid (OwnR.nil w5 (w.heap.size + 1)); have HXO := hid (show ∀ r ∈ ([] : List Run), RunOk r from fun r hr => absurd hr (by simp)); have HXN := hid (show ([] : List Run).length = 0 from rfl); have hz6 := hz5)) | (at_builtin; go_must (refine wl_appR rfl _ _ _ rfl (w.heap.size + 1) (.slice (some ⟨w.heap.size + 1, 0, none⟩) 0 0) [] rfl HM.out _ ls rfl (src_R (HL.out.ext (hxa.trans ((Ext.refl (w.alloc (.cells #[.int .i64 7, .int .i64 n, .slice al ls.length cl, .bool two] 74))).alloc _)))) (by simp <;> omega) (by simp) ?_; intro v' wk k1 k4 k5 k6; have HXK := hid (show Ext (w.alloc (.cells #[.int .i64 7, .int .i64 n, .slice al ls.length cl, .bool two] 74)) wk from Ext.step ((Ext.refl (w.alloc (.cells #[.int .i64 7, .int .i64 n, .slice al ls.length cl, .bool two] 74))).alloc _) k5 (Nat.le_of_eq HSA.out)); have dk0 := HXK.out.cellS HC0.out; have dk1 := HXK.out.cellS HC1.out; clear k1 k4 k5 k6)))
      obtain ⟨E, HEE⟩ : ∃ E, Hid (extF s n [] = E) := ⟨_, hid rfl⟩
      have hOK := ext_okF (n := n) (ls := []) H.out.ok
      have hsl := HXL.out.size
      have hsa := HSA.out
      have hz1 := hk1.size
      have hz2 := hk2.size
      have hqwl : ∀ k, q = some k → k < w.heap.size := by obtain ⟨_, _, _, _, _, h1, _⟩ := H.out.node; exact h1
      have hqwl' : ∀ k, q' = some k → k < w.heap.size := by obtain ⟨_, _, _, _, _, h1⟩ := H.out.rnode; exact h1
      have hown2 : OwnR w2 (w.heap.size + 1) (.slice none 0 0) [] := (HLW.out.keep hk1 (fun k hk => by have := (HLW.out.lt k hk).1; omega)).keep hk2 (fun k hk => by have := (HLW.out.lt k hk).1; omega)
      have hq1b : q1 ≠ some g' := by
        rcases HQ1.out with h | h
        · rw [h]; exact H.out.qne
        · intro e; have := h _ e; omega
      have hq2b : q2 ≠ some g := by
        rcases HQ2.out with h | h
        · rw [h]; exact H.out.qne'
        · intro e; have := h _ e; omega
      have hN2 : NodeAt w2 g q1 _ _ := HN1'.out.keep hk2 (by omega) (fun k hk e => hq1b (by rw [hk, e]))
      have hkA : Keep (fun k => k ≠ g ∧ k ≠ g') w w2 := ((hxa.trans HXL.out).keep _).trans ((hk1.mono fun k hk _ => hk.1).trans (hk2.mono fun k hk _ => hk.2))
      have hqr : ∀ k, (Value.slice none 0 0).ownBlock = some k → k ≠ g ∧ k ≠ g' ∧ q1 ≠ some k ∧ q2 ≠ some k ∧ w.heap.size < k := by
        intro k hk
        have h1 := HLW.out.lt k hk
        refine ⟨by omega, by omega, ?_, ?_, by omega⟩
        · rcases HQ1.out with h | h
          · intro e; have := hqwl k (by rw [← h, e]); omega
          · intro e; have := h _ e; omega
        · rcases HQ2.out with h | h
          · intro e; have := hqwl' k (by rw [← h, e]); omega
          · intro e; have := h _ e; omega
      have HN3 := hid hN2
      have HO3 := hid hown2
      have HKA := hid hkA
      have HQR := hid hqr
      have HQ1b := hid hq1b
      have HQ2b := hid hq2b
      have HOK := hid hOK
      generalize extF s n [] = EE at *
      clear hN2 hown2 hkA hqr hq1b hq2b hOK hk1 HN1' HLW
      go_wp2_with fail
      go_loopw [12] (fun u12 wr => ∃ i : Nat, ∃ xs : List Run, i ≤ 0 ∧ xs.length = 0 ∧ u12 = .int .i64 i ∧ OwnR wr (w.heap.size + 1) (.slice none 0 0) xs ∧ Keep (fun k => (Value.slice none 0 0).ownBlock ≠ some k) w2 wr) (fun i _ => 0 - (intOf i).toNat)
      case atStart => exact ⟨0, [], by omega, HXN.out, rfl, HO3.out, Keep.refl _ _⟩
      case round =>
        obtain ⟨i, xs, hi, hxs, rfl, hown, hkr⟩ := hrel
        have HOW := hid hown
        have HXS := hid hxs
        by_cases hlt : i < 0
        · exact absurd hlt (Nat.not_lt_zero _)
        · obtain rfl : i = 0 := by omega
          clear hown hxs
          go_wp2_with fail
          go_ret
          have hqr := HQR.out
          refine ⟨rfl, q1, q2, _, _, ⟨HN3.out.keep hkr (fun e => (hqr _ e).1 rfl) (fun k hk e => (hqr _ e).2.2.1 hk), HN2'.out.keep hkr (fun e => (hqr _ e).2.1 rfl) (fun k hk e => (hqr _ e).2.2.2.1 hk), HOK.out, hne, HQ1b.out, HQ2b.out⟩, ?_, ?_, ?_⟩
          · exact ⟨hkr.os.trans HKA.out.os, hkr.tape.trans HKA.out.tape, hkr.output.trans HKA.out.output, Nat.le_trans HKA.out.size hkr.size, fun k hk hl => (hkr.block k (fun e => by have := (hqr _ e).2.2.2.2; omega) (by have := HKA.out.size; omega)).trans (HKA.out.block k hk hl)⟩
          · rcases HQ1.out with h | h
            · exact .inl h
            · exact .inr fun k hk => by have := h k hk; omega
          · rcases HQ2.out with h | h
            · exact .inl h
            · exact .inr fun k hk => by have := h k hk; omega
  · have hdn : decide (0 < nd) = true := decide_eq_true hnp
    have hp1 : (0 : Int) < (ls.length : Int) := by omega
    have hro := HLO.out _ (List.getElem_mem hpos)
    obtain ⟨f, hf⟩ : ∃ f, ls[0].1 = f := ⟨_, rfl⟩
    have HF0 := hid hf
    obtain ⟨⟨r1, r2⟩, -, -⟩ := hro
    rw [hf] at r1 r2
    have HXO := hid (show ∀ r ∈ [((f : Int), nd)], RunOk r by intro r hr; obtain rfl := List.mem_singleton.1 hr; exact ⟨⟨by dsimp only; omega, by dsimp only; omega⟩, by dsimp only; omega, by dsimp only; omega⟩)
    clear hf
    go_enter Try.func48, Try.ntmps48
    go_wp2_with (first | (go_at_call 41; go_must (refine (nodeExtend_any _ g q s n L (H.out.node.ext (hxa.trans HXL.out)) H.out.ok hn _ [((f : Int), nd)] HLW.out.rd HXO.out).mono ?_; intro e w1 he; obtain ⟨q1, rfl, HN1, hk1, hq1⟩ := ext_both he; clear he; have HN1' := hid HN1; have HQ1 := hid hq1; have e1 := hk1.cell d1x (by show w.heap.size ≠ g; omega); clear HN1 hq1)) | (go_at_call 69; go_must (refine (rExtend_any _ g' q' s n L ((H.out.rnode.ext (hxa.trans HXL.out)).keep hk1 (fun e => hne e.symm) (fun k hk e => H.out.qne' (by rw [hk, e]))) H.out.ok hn _ [((f : Int), nd)] (HLW.out.keep hk1 (fun k hk => by have := (HLW.out.lt k hk).1; omega)).rd HXO.out).mono ?_; rintro e w2 ⟨rfl, q2, HN2, hk2, hq2⟩; have HN2' := hid HN2; have HQ2 := hid hq2; clear HN2 hq2)) | (go_at_call 68; go_must (refine (rNeed_any _ g' q' s n L (H.out.rnode.ext (hxa.trans HXK.out)) ⟨hs1, hs2⟩ hn).mono ?_; rw [HNE.out]; rintro e w5 ⟨rfl, hb5⟩; have HX5 := hid (HXK.out.trans (Ext.of hb5)); clear dk0 dk1; have d1 := HX5.out.cellS HC1.out; have d2 := HX5.out.cellS HC2.out; have hz5 := HX5.out.size; clear hb5; obtain ⟨gl, ol, ccl, e, hgl, f0, -⟩ := (HL.out.ext (hxa.trans HX5.out)).at 0 hpos; simp only [Value.slice.injEq] at e; obtain ⟨rfl, -, rfl⟩ := e; rw [Nat.zero_mul, Nat.add_zero] at f0; rw [HF0.out] at f0; have HXL := hid (HX5.out.alloc (.cells #[.int .i64 f, .int .i64 nd] 43)); have HLW := hid ((ownR_one w5 f nd).low (show w.heap.size + 1 ≤ w5.heap.size by have := HSA.out; omega)); have d1x := HXL.out.cellS HC1.out; have HXN := hid (show [((f : Int), nd)].length = 1 from rfl))) | (at_builtin; go_must (refine wl_appR rfl _ _ _ rfl (w.heap.size + 1) (.slice (some ⟨w.heap.size + 1, 0, none⟩) 0 0) [] rfl HM.out _ ls rfl (src_R (HL.out.ext (hxa.trans ((Ext.refl (w.alloc (.cells #[.int .i64 7, .int .i64 n, .slice al ls.length cl, .bool two] 74))).alloc _)))) (by simp <;> omega) (by simp) ?_; intro v' wk k1 k4 k5 k6; have HXK := hid (show Ext (w.alloc (.cells #[.int .i64 7, .int .i64 n, .slice al ls.length cl, .bool two] 74)) wk from Ext.step ((Ext.refl (w.alloc (.cells #[.int .i64 7, .int .i64 n, .slice al ls.length cl, .bool two] 74))).alloc _) k5 (Nat.le_of_eq HSA.out)); have dk0 := HXK.out.cellS HC0.out; have dk1 := HXK.out.cellS HC1.out; clear k1 k4 k5 k6)))
    obtain ⟨E, HEE⟩ : ∃ E, Hid (extF s n [((f : Int), nd)] = E) := ⟨_, hid rfl⟩
    have hOK := ext_okF (n := n) (ls := [((f : Int), nd)]) H.out.ok
    have hsl := HXL.out.size
    have hsa := HSA.out
    have hz1 := hk1.size
    have hz2 := hk2.size
    have hqwl : ∀ k, q = some k → k < w.heap.size := by obtain ⟨_, _, _, _, _, h1, _⟩ := H.out.node; exact h1
    have hqwl' : ∀ k, q' = some k → k < w.heap.size := by obtain ⟨_, _, _, _, _, h1⟩ := H.out.rnode; exact h1
    have hown2 : OwnR w2 (w.heap.size + 1) (.slice (some ⟨w5.heap.size, 0, none⟩) 1 1) [((f : Int), nd)] := (HLW.out.keep hk1 (fun k hk => by have := (HLW.out.lt k hk).1; omega)).keep hk2 (fun k hk => by have := (HLW.out.lt k hk).1; omega)
    have hq1b : q1 ≠ some g' := by
      rcases HQ1.out with h | h
      · rw [h]; exact H.out.qne
      · intro e; have := h _ e; omega
    have hq2b : q2 ≠ some g := by
      rcases HQ2.out with h | h
      · rw [h]; exact H.out.qne'
      · intro e; have := h _ e; omega
    have hN2 : NodeAt w2 g q1 _ _ := HN1'.out.keep hk2 (by omega) (fun k hk e => hq1b (by rw [hk, e]))
    have hkA : Keep (fun k => k ≠ g ∧ k ≠ g') w w2 := ((hxa.trans HXL.out).keep _).trans ((hk1.mono fun k hk _ => hk.1).trans (hk2.mono fun k hk _ => hk.2))
    have hqr : ∀ k, (Value.slice (some ⟨w5.heap.size, 0, none⟩) 1 1).ownBlock = some k → k ≠ g ∧ k ≠ g' ∧ q1 ≠ some k ∧ q2 ≠ some k ∧ w.heap.size < k := by
      intro k hk
      have h1 := HLW.out.lt k hk
      refine ⟨by omega, by omega, ?_, ?_, by omega⟩
      · rcases HQ1.out with h | h
        · intro e; have := hqwl k (by rw [← h, e]); omega
        · intro e; have := h _ e; omega
      · rcases HQ2.out with h | h
        · intro e; have := hqwl' k (by rw [← h, e]); omega
        · intro e; have := h _ e; omega
    have HN3 := hid hN2
    have HO3 := hid hown2
    have HKA := hid hkA
    have HQR := hid hqr
    have HQ1b := hid hq1b
    have HQ2b := hid hq2b
    have HOK := hid hOK
    generalize extF s n [((f : Int), nd)] = EE at *
    clear hN2 hown2 hkA hqr hq1b hq2b hOK hk1 HN1' HLW
    go_wp2_with fail
    go_loopw [12] (fun u12 wr => ∃ i : Nat, ∃ xs : List Run, i ≤ 1 ∧ xs.length = 1 ∧ u12 = .int .i64 i ∧ OwnR wr (w.heap.size + 1) (.slice (some ⟨w5.heap.size, 0, none⟩) 1 1) xs ∧ Keep (fun k => (Value.slice (some ⟨w5.heap.size, 0, none⟩) 1 1).ownBlock ≠ some k) w2 wr) (fun i _ => 1 - (intOf i).toNat)
    case atStart => exact ⟨0, [((f : Int), nd)], by omega, HXN.out, rfl, HO3.out, Keep.refl _ _⟩
    case round =>
      obtain ⟨i, xs, hi, hxs, rfl, hown, hkr⟩ := hrel
      have HOW := hid hown
      have HXS := hid hxs
      by_cases hlt : i < 1
      · have hlt2 : i < xs.length := by omega
        obtain ⟨rb, rc', e, hrb, hrl, d0', d1', f0, f1⟩ := hown.at i hlt2
        simp only [Value.slice.injEq, Option.some.injEq, Addr.mk.injEq] at e
        obtain ⟨⟨rfl, -⟩, -, rfl⟩ := e
        have i1 : (i : Int) < (1 : Int) := by omega
        have i3 : (0 : Int) ≤ (i : Int) := by omega
        clear hown hxs
        go_wp2_with fail
        go_roundw
        case rel => exact ⟨i + 1, xs.set i (500, 1), by omega, by rw [List.length_set]; exact HXS.out, by go_num, HOW.out.setRun i (by rw [HXS.out]; exact hlt) 500 1 HXS.out.symm, (hkr.setCell (by simp [Value.ownBlock]) _).setCell (by simp [Value.ownBlock]) _⟩
        case measure => simp [intOf]; omega
      · obtain rfl : i = 1 := by omega
        clear hown hxs
        go_wp2_with fail
        go_ret
        have hqr := HQR.out
        refine ⟨rfl, q1, q2, _, _, ⟨HN3.out.keep hkr (fun e => (hqr _ e).1 rfl) (fun k hk e => (hqr _ e).2.2.1 hk), HN2'.out.keep hkr (fun e => (hqr _ e).2.1 rfl) (fun k hk e => (hqr _ e).2.2.2.1 hk), HOK.out, hne, HQ1b.out, HQ2b.out⟩, ?_, ?_, ?_⟩
        · exact ⟨hkr.os.trans HKA.out.os, hkr.tape.trans HKA.out.tape, hkr.output.trans HKA.out.output, Nat.le_trans HKA.out.size hkr.size, fun k hk hl => (hkr.block k (fun e => by have := (hqr _ e).2.2.2.2; omega) (by have := HKA.out.size; omega)).trans (HKA.out.block k hk hl)⟩
        · rcases HQ1.out with h | h
          · exact .inl h
          · exact .inr fun k hk => by have := h k hk; omega
        · rcases HQ2.out with h | h
          · exact .inl h
          · exact .inr fun k hk => by have := h k hk; omega
end
end Go.Proofs.Ytbpcgfplokkfpaa
