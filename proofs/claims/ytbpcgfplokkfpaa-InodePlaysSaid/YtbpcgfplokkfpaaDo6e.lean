/- The inode laws' do: Extend. -/
import Derived.Test.YtbpcgfplokkfpaaDo6c
import Derived.Test.YtbpcgfplokkfpaaBackW
namespace Go.Proofs.Ytbpcgfplokkfpaa
open Go.RowKit
set_option linter.unusedVariables false
set_option linter.unusedSimpArgs false

theorem own_madeR (w : World) : OwnR (w.alloc (.cells #[] 43)) w.heap.size (.slice (some ⟨w.heap.size, 0, none⟩) 0 0) [] := World.ownsRow_made w #[] 0 (Nat.le_refl _) (by simp [maxLen]) rfl
theorem ext_both {w w' : World} {g : Nat} {q : Option Nat} {s n : Int} {L : List Int} {ls : List Run} {e : Ending} (h : ExtEnd w g q s n L ls e w') : ∃ q', e = .returned (.int .i64 (extF s n ls)) ∧ NodeAt w' g q' (if extF s n ls = 0 then s + n else s) (if extF s n ls = 0 then L ++ expand ls else L) ∧ Keep (fun k => k ≠ g) w w' ∧ (q' = q ∨ ∀ k, q' = some k → w.heap.size ≤ k) := by
  obtain ⟨h1, q', h2, h3, h4⟩ := h
  exact ⟨q', h1, h2, h3, h4⟩
theorem ext_okF {s n : Int} {L : List Int} {ls : List Run} (ho : NodeOk s L) : NodeOk (if extF s n ls = 0 then s + n else s) (if extF s n ls = 0 then L ++ expand ls else L) := by
  by_cases h : extF s n ls = 0
  · rw [if_pos h, if_pos h]; exact (ext_ok ho h).1
  · rw [if_neg h, if_neg h]; exact ho

section
variable (w : World) (g g' : Nat) (q q' : Option Nat) (s n : Int) (L : List Int) (lv : Value) (two : Bool) (ls : List Run)

set_option maxRecDepth 100000 in
set_option maxHeartbeats 2000000 in
theorem do6_ext1 (h : Pair6 w g g' q q' s L) (hn : -9223372036854775808 ≤ n ∧ n ≤ 9223372036854775807) (hl : RdR w lv ls) (hlo : ∀ r ∈ ls, RunOk r) (hl16 : ls.length * 16 ≤ 140737488351232) :
    Calls Try.prog 48 #[.pointer (some ⟨g, 0, none⟩), .pointer (some ⟨g', 0, none⟩), .agg #[.int .i64 1, .int .i64 n, lv, .bool two]] w (Do6End w g g' q q') := by
  have H := hid h
  have hgw := h.node.lt
  have hgw' := h.rnode.lt
  have hne := h.ne
  have hs1 := h.ok.lo
  have hs2 := h.ok.hi
  obtain ⟨al, cl, rfl, hcl1, hcl2⟩ := hl.slice
  have HL := hid hl
  have HLO := hid hlo
  have hxa : Ext w (w.alloc (.cells #[.int .i64 1, .int .i64 n, .slice al ls.length cl, .bool two] 74)) := (Ext.refl w).alloc _
  have c0 : (w.alloc (.cells #[.int .i64 1, .int .i64 n, .slice al ls.length cl, .bool two] 74)).cell? ⟨w.heap.size, 0, none⟩ = some (.int .i64 1) := by simp [go_sem]
  have c1 : (w.alloc (.cells #[.int .i64 1, .int .i64 n, .slice al ls.length cl, .bool two] 74)).cell? ⟨w.heap.size, 1, none⟩ = some (.int .i64 n) := by simp [go_sem]
  have c2 : (w.alloc (.cells #[.int .i64 1, .int .i64 n, .slice al ls.length cl, .bool two] 74)).cell? ⟨w.heap.size, 2, none⟩ = some (.slice al ls.length cl) := by simp [go_sem]
  have hsa : (w.alloc (.cells #[.int .i64 1, .int .i64 n, .slice al ls.length cl, .bool two] 74)).heap.size = w.heap.size + 1 := by simp
  have HC0 := hid c0
  have HC1 := hid c1
  have HC2 := hid c2
  have HSA := hid hsa
  have HM := hid (show OwnR ((w.alloc (.cells #[.int .i64 1, .int .i64 n, .slice al ls.length cl, .bool two] 74)).alloc (.cells #[] 43)) (w.heap.size + 1) (.slice (some ⟨w.heap.size + 1, 0, none⟩) 0 0) [] by have := own_madeR (w.alloc (.cells #[.int .i64 1, .int .i64 n, .slice al ls.length cl, .bool two] 74)); rw [hsa] at this; exact this)
  clear hsa c0 c1 c2
  clear h hl hlo
  go_enter Try.func48, Try.ntmps48
  go_wp2_with (first | (have KEY := HLW; fail) | (at_builtin; go_must (refine wl_appR rfl _ _ _ rfl (w.heap.size + 1) (.slice (some ⟨w.heap.size + 1, 0, none⟩) 0 0) [] rfl HM.out _ ls rfl (src_R (HL.out.ext (hxa.trans ((Ext.refl (w.alloc (.cells #[.int .i64 1, .int .i64 n, .slice al ls.length cl, .bool two] 74))).alloc _)))) (by simp <;> omega) (by simp) ?_; intro v' wl k1 k4 k5 k6; rw [List.nil_append] at k1; have HLW := k1; obtain ⟨la, lc, rfl, -⟩ := HLW.rd.slice; have HLW := hid HLW; have HXL := hid (show Ext (w.alloc (.cells #[.int .i64 1, .int .i64 n, .slice al ls.length cl, .bool two] 74)) wl from Ext.step ((Ext.refl (w.alloc (.cells #[.int .i64 1, .int .i64 n, .slice al ls.length cl, .bool two] 74))).alloc _) k5 (Nat.le_of_eq HSA.out)); have d0 := HXL.out.cellS HC0.out; have d1 := HXL.out.cellS HC1.out; obtain ⟨X, hX⟩ : ∃ X, X = ls := ⟨_, rfl⟩; have HXO := hid (show ∀ r ∈ X, RunOk r by rw [hX]; exact HLO.out); obtain ⟨N, hN⟩ : ∃ N, N = ls.length := ⟨_, rfl⟩; have HXN := hid (show X.length = N by rw [hX, hN]); have hNb : N ≤ 140737488351232 := (by omega); rw [← hN] at HLW ⊢; rw [← hX] at HLW; clear hX hN k1 k4 k5 k6)) | (go_at_call 41; go_must (refine (nodeExtend_any _ g q s n L (H.out.node.ext (hxa.trans HXL.out)) H.out.ok hn _ X HLW.out.rd HXO.out).mono ?_; intro e w1 he; obtain ⟨q1, rfl, HN1, hk1, hq1⟩ := ext_both he; clear he; have HN1' := hid HN1; have HQ1 := hid hq1; have e1 := hk1.cell d1 (by show w.heap.size ≠ g; omega); clear HN1 hq1)) | (go_at_call 69; go_must (refine (rExtend_any _ g' q' s n L ((H.out.rnode.ext (hxa.trans HXL.out)).keep hk1 (fun e => hne e.symm) (fun k hk e => H.out.qne' (by rw [hk, e]))) H.out.ok hn _ X (HLW.out.keep hk1 (fun k hk => by have := (HLW.out.lt k hk).1; omega)).rd HXO.out).mono ?_; rintro e w2 ⟨rfl, q2, HN2, hk2, hq2⟩; have HN2' := hid HN2; have HQ2 := hid hq2; clear HN2 hq2)))
  obtain ⟨E, HEE⟩ : ∃ E, Hid (extF s n X = E) := ⟨_, hid rfl⟩
  have hOK := ext_okF (n := n) (ls := X) H.out.ok
  have hsl := HXL.out.size
  have hsa := HSA.out
  have hz1 := hk1.size
  have hz2 := hk2.size
  have hqwl : ∀ k, q = some k → k < w.heap.size := by obtain ⟨_, _, _, _, _, h1, _⟩ := H.out.node; exact h1
  have hqwl' : ∀ k, q' = some k → k < w.heap.size := by obtain ⟨_, _, _, _, _, h1⟩ := H.out.rnode; exact h1
  have hown2 : OwnR w2 (w.heap.size + 1) (.slice la N lc) X := (HLW.out.keep hk1 (fun k hk => by have := (HLW.out.lt k hk).1; omega)).keep hk2 (fun k hk => by have := (HLW.out.lt k hk).1; omega)
  have hq1b : q1 ≠ some g' := by
    rcases HQ1.out with h | h
    · rw [h]; exact H.out.qne
    · intro e; have := h _ e; omega
  have hq2b : q2 ≠ some g := by
    rcases HQ2.out with h | h
    · rw [h]; exact H.out.qne'
    · intro e; have := h _ e; omega
  have hN2 : NodeAt w2 g q1 _ _ := HN1'.out.keep hk2 (by omega) (fun k hk e => hq1b (by rw [hk, e]))
  have hkA : Keep (fun k => k ≠ g ∧ k ≠ g') w w2 := ((hxa.trans HXL.out).keep _).trans ((hk1.mono fun k hk _ => hk.1).trans (hk2.mono fun k hk _ => hk.2))
  have hqr : ∀ k, (Value.slice la N lc).ownBlock = some k → k ≠ g ∧ k ≠ g' ∧ q1 ≠ some k ∧ q2 ≠ some k ∧ w.heap.size < k := by
    intro k hk
    have h1 := HLW.out.lt k hk
    refine ⟨by omega, by omega, ?_, ?_, by omega⟩
    · rcases HQ1.out with h | h
      · intro e; have := hqwl k (by rw [← h, e]); omega
      · intro e; have := h _ e; omega
    · rcases HQ2.out with h | h
      · intro e; have := hqwl' k (by rw [← h, e]); omega
      · intro e; have := h _ e; omega
  have HN3 := hid hN2
  have HO3 := hid hown2
  have HKA := hid hkA
  have HQR := hid hqr
  have HQ1b := hid hq1b
  have HQ2b := hid hq2b
  have HOK := hid hOK
  generalize extF s n X = EE at *
  clear hN2 hown2 hkA hqr hq1b hq2b hOK hk1 HN1' HLW d1 e1
  go_wp2_with fail
  go_loopw [12] (fun u12 wr => ∃ i : Nat, ∃ xs : List Run, i ≤ N ∧ xs.length = N ∧ u12 = .int .i64 i ∧ OwnR wr (w.heap.size + 1) (.slice la N lc) xs ∧ Keep (fun k => (Value.slice la N lc).ownBlock ≠ some k) w2 wr) (fun i _ => N - (intOf i).toNat)
  case atStart => exact ⟨0, X, by omega, HXN.out, rfl, HO3.out, Keep.refl _ _⟩
  case round =>
    obtain ⟨i, xs, hi, hxs, rfl, hown, hkr⟩ := hrel
    have HOW := hid hown
    have HXS := hid hxs
    by_cases hlt : i < N
    · have hlt2 : i < xs.length := by omega
      obtain ⟨rb, rc', e, hrb, hrl, d0', d1', f0, f1⟩ := hown.at i hlt2
      simp only [Value.slice.injEq] at e
      obtain ⟨rfl, -, rfl⟩ := e
      have i1 : (i : Int) < (N : Int) := by omega
      have i3 : (0 : Int) ≤ (i : Int) := by omega
      clear hown hxs
      go_wp2_with fail
      go_roundw
      case rel => exact ⟨i + 1, xs.set i (500, 1), by omega, by rw [List.length_set]; exact HXS.out, by go_num, HOW.out.setRun i (by rw [HXS.out]; exact hlt) 500 1 HXS.out.symm, (hkr.setCell (by simp [Value.ownBlock]) _).setCell (by simp [Value.ownBlock]) _⟩
      case measure => simp [intOf]; omega
    · obtain rfl : i = N := by omega
      clear hown hxs
      go_wp2_with fail
      go_ret
      have hqr := HQR.out
      refine ⟨rfl, q1, q2, _, _, ⟨HN3.out.keep hkr (fun e => (hqr _ e).1 rfl) (fun k hk e => (hqr _ e).2.2.1 hk), HN2'.out.keep hkr (fun e => (hqr _ e).2.1 rfl) (fun k hk e => (hqr _ e).2.2.2.1 hk), HOK.out, hne, HQ1b.out, HQ2b.out⟩, ?_, ?_, ?_⟩
      · exact ⟨hkr.os.trans HKA.out.os, hkr.tape.trans HKA.out.tape, hkr.output.trans HKA.out.output, Nat.le_trans HKA.out.size hkr.size, fun k hk hl => (hkr.block k (fun e => by have := (hqr _ e).2.2.2.2; omega) (by have := HKA.out.size; omega)).trans (HKA.out.block k hk hl)⟩
      · rcases HQ1.out with h | h
        · exact .inl h
        · exact .inr fun k hk => by have := h k hk; omega
      · rcases HQ2.out with h | h
        · exact .inl h
        · exact .inr fun k hk => by have := h k hk; omega
end
end Go.Proofs.Ytbpcgfplokkfpaa
