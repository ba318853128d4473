/- The inode laws' do: Cut. -/
import Derived.Test.YtbpcgfplokkfpaaDo6
import Derived.Test.YtbpcgfplokkfpaaNodeC
namespace Go.Proofs.Ytbpcgfplokkfpaa
open Go.RowKit
set_option linter.unusedVariables false
set_option linter.unusedSimpArgs false

/-- P6.3: the error, the new length, the blocks that stay, the runs that go -/
def cutF (s n : Int) (L : List Int) : Int × Int × List Int × List Run := if n < 0 ∨ s < n then (60, s, L, []) else (0, n, L.take (nb n).toNat, whole (L.drop (nb n).toNat))
theorem cutF_ok {s n : Int} {L : List Int} (ho : NodeOk s L) : NodeOk (cutF s n L).2.1 (cutF s n L).2.2.1 ∧ (cutF s n L).2.2.2.length ≤ 64 := by
  unfold cutF
  have h64 := ho.len64
  split
  · exact ⟨ho, by simp⟩
  · dsimp only
    refine ⟨cut_ok ho (by omega) (by omega), ?_⟩
    have := whole_len (L.drop (nb n).toNat)
    rw [List.length_drop] at this
    omega
theorem nodeCut_all (w : World) (g : Nat) (q : Option Nat) (s n : Int) (L : List Int) (h : NodeAt w g q s L) (ho : NodeOk s L) (hn : -9223372036854775808 ≤ n ∧ n ≤ 9223372036854775807) :
    Calls Try.prog 43 #[.pointer (some ⟨g, 0, none⟩), .int .i64 n] w fun e w' => ∃ gv q1, e = .returned (.tuple #[gv, .int .i64 (cutF s n L).1]) ∧ NodeAt w' g q1 (cutF s n L).2.1 (cutF s n L).2.2.1 ∧ OwnR w' w.heap.size gv (cutF s n L).2.2.2 ∧ Keep (fun k => k ≠ g) w w' ∧ (q1 = q ∨ ∀ k, q1 = some k → w.heap.size ≤ k) ∧ (∀ k, gv.ownBlock = some k → q1 ≠ some k) := by
  unfold cutF
  by_cases hb : n < 0 ∨ s < n
  · rw [if_pos hb]
    refine (nodeCut_bad w g q s n L h ⟨ho.lo, ho.hi⟩ hn hb).mono ?_
    rintro e w' ⟨rfl, hb'⟩
    have hx := Ext.of hb'
    exact ⟨_, q, rfl, h.ext hx, OwnR.nil _ _, hx.keep _, .inl rfl, by simp [Value.ownBlock]⟩
  · rw [if_neg hb]
    refine (nodeCut_any w g q s n L h ho (by omega) (by omega)).mono ?_
    rintro e w' ⟨gv, q1, rfl, h1, h2, h3, h4, h5, -⟩
    exact ⟨gv, q1, rfl, h1, h2, h3, .inr h4, h5⟩
theorem rCut_all (w : World) (g : Nat) (q : Option Nat) (s n : Int) (L : List Int) (h : RNodeAt w g q s L) (ho : NodeOk s L) (hn : -9223372036854775808 ≤ n ∧ n ≤ 9223372036854775807) :
    Calls Try.prog 70 #[.pointer (some ⟨g, 0, none⟩), .int .i64 n] w fun e w' => ∃ gv q1, e = .returned (.tuple #[gv, .int .i64 (cutF s n L).1]) ∧ RNodeAt w' g q1 (cutF s n L).2.1 (cutF s n L).2.2.1 ∧ OwnR w' w.heap.size gv (cutF s n L).2.2.2 ∧ Keep (fun k => k ≠ g) w w' ∧ (q1 = q ∨ ∀ k, q1 = some k → w.heap.size ≤ k) := by
  unfold cutF
  by_cases hb : n < 0 ∨ s < n
  · rw [if_pos hb]
    refine (rCut_bad w g q s n L h ⟨ho.lo, ho.hi⟩ hn hb).mono ?_
    rintro e w' ⟨rfl, hb'⟩
    have hx := Ext.of hb'
    exact ⟨_, q, rfl, h.ext hx, OwnR.nil _ _, hx.keep _, .inl rfl⟩
  · rw [if_neg hb]
    refine (rCut_any w g q s n L h ho (by omega) (by omega)).mono ?_
    rintro e w' ⟨gv, q1, rfl, h1, h2, h3, h4⟩
    exact ⟨gv, q1, rfl, h1, h2, h3, .inr h4⟩

theorem OwnR.setRun {w : World} {base g cap n : Nat} {xs : List Run} (h : OwnR w base (.slice (some ⟨g, 0, none⟩) n cap) xs) (i : Nat) (hi : i < xs.length) (a b : Int) (hn : n = xs.length) : OwnR ((w.setCell ⟨g, i * 2, none⟩ (.int .i64 a)).setCell ⟨g, i * 2 + 1, none⟩ (.int .i64 b)) base (.slice (some ⟨g, 0, none⟩) n cap) (xs.set i (a, b)) := by
  have o1 := h.setFrom i hi a hn
  have o2 := o1.setLen i (by rw [List.length_set]; exact hi) b (by rw [List.length_set]; exact hn)
  simpa using o2

section
variable (w : World) (g g' : Nat) (q q' : Option Nat) (s n : Int) (L : List Int) (lv : Value) (two : Bool)

set_option maxRecDepth 100000 in
set_option maxHeartbeats 2000000 in
theorem do6_cut (h : Pair6 w g g' q q' s L) (hn : -9223372036854775808 ≤ n ∧ n ≤ 9223372036854775807) :
    Calls Try.prog 48 #[.pointer (some ⟨g, 0, none⟩), .pointer (some ⟨g', 0, none⟩), .agg #[.int .i64 2, .int .i64 n, lv, .bool two]] w (Do6End w g g' q q') := by
  have H := hid h
  have hgw := h.node.lt
  have hgw' := h.rnode.lt
  have hne := h.ne
  have hql : ∀ k, q = some k → k < w.heap.size := by obtain ⟨_, _, _, _, _, h1, _⟩ := h.node; exact h1
  have HQL := hid hql
  have hxa : Ext w (w.alloc (.cells #[.int .i64 2, .int .i64 n, lv, .bool two] 74)) := (Ext.refl w).alloc _
  have c1 : (w.alloc (.cells #[.int .i64 2, .int .i64 n, lv, .bool two] 74)).cell? ⟨w.heap.size, 1, none⟩ = some (.int .i64 n) := by simp [go_sem]
  have C1 := hid c1
  have hsa : (w.alloc (.cells #[.int .i64 2, .int .i64 n, lv, .bool two] 74)).heap.size = w.heap.size + 1 := by simp
  have HSA := hid hsa
  obtain ⟨hok1, hX64⟩ := cutF_ok (n := n) h.ok
  obtain ⟨A, HA⟩ : ∃ A, Hid (cutF s n L = A) := ⟨_, hid rfl⟩
  rw [HA.out] at hok1 hX64
  obtain ⟨c, s1, L1, X⟩ := A
  dsimp only at hok1 hX64
  have HOK1 := hid hok1
  clear h c1 hok1 hsa hql
  go_enter Try.func48, Try.ntmps48
  go_wp2_with (first | (go_at_call 43; go_must (refine (nodeCut_all _ g q s n L (H.out.node.ext hxa) H.out.ok hn).mono ?_; rw [HA.out]; rintro e w1 ⟨gv, q1, rfl, HN1, HG1, hk1, hq1, hqg1⟩; dsimp only at HN1 HG1; have d1 := hk1.cell C1.out (by show w.heap.size ≠ g; omega); have HN1' := hid HN1; have HG1' := hid HG1; have HQ1 := hid hq1; have HQG1 := hid hqg1; obtain ⟨ga, gc, rfl, -⟩ := HG1.rd.slice; clear HN1 HG1 hq1 hqg1)) | (go_at_call 70; go_must (refine (rCut_all _ g' q' s n L ((H.out.rnode.ext hxa).keep hk1 (fun e => hne e.symm) (fun k hk e => H.out.qne' (by rw [hk, e]))) H.out.ok hn).mono ?_; rw [HA.out]; rintro e w2 ⟨rv, q2, rfl, HN2, HG2, hk2, hq2⟩; dsimp only at HN2 HG2; have HN2' := hid HN2; have HG2' := hid HG2; have HQ2 := hid hq2; have hs1 := hk1.size; have hs2 := hk2.size; have HG12 := hid (HG1'.out.keep hk2 (fun k hk => by have := (HG1'.out.lt k hk).1; have := HSA.out; omega)); clear HN2 HG2 hq2)) | (go_at_call 33; go_must (refine (SameRuns_any _ _ _ X X HG12.out.rd HG2'.out.rd).mono ?_; rw [decide_eq_true rfl]; rintro e w3 ⟨rfl, hb3⟩; have hx3 := Ext.of hb3; clear hb3)))
  have hsa := HSA.out
  have hq1b : q1 ≠ some g' := by
    rcases HQ1.out with h | h
    · rw [h]; exact H.out.qne
    · intro e; have := h _ e; omega
  have hN3 : NodeAt w3 g q1 s1 L1 := (HN1'.out.keep hk2 (by omega) (fun k hk e => hq1b (by rw [hk, e]))).ext hx3
  have hR3 : RNodeAt w3 g' q2 s1 L1 := HN2'.out.ext hx3
  have hO3 := HG12.out.ext hx3
  have hkA : Keep (fun k => k ≠ g ∧ k ≠ g') w w3 := ((hxa.keep _).trans ((hk1.mono fun k hk _ => hk.1).trans (hk2.mono fun k hk _ => hk.2))).trans (hx3.keep _)
  have hq2b : q2 ≠ some g := by
    rcases HQ2.out with h | h
    · rw [h]; exact H.out.qne'
    · intro e; have := h _ e; omega
  have hqr : ∀ k, (Value.slice ga X.length gc).ownBlock = some k → k ≠ g ∧ k ≠ g' ∧ q1 ≠ some k ∧ q2 ≠ some k ∧ w.heap.size < k := by
    intro k hk
    have h1 := HG1'.out.lt k hk
    refine ⟨by omega, by omega, HQG1.out k hk, ?_, by omega⟩
    rcases HQ2.out with h | h
    · intro e
      obtain ⟨_, _, _, _, _, h6⟩ := H.out.rnode
      have := h6 k (by rw [← h, e])
      omega
    · intro e; have := h _ e; omega
  have HN3 := hid hN3
  have HR3 := hid hR3
  have HO3 := hid hO3
  have HKA := hid hkA
  have HQR := hid hqr
  have HQ1b := hid hq1b
  have HQ2b := hid hq2b
  have hs3 := hx3.size
  generalize hXN : X.length = N at *
  have HXN := hid hXN
  clear hN3 hR3 hO3 hkA hqr hq1b hq2b hXN hk1 hk2 HN1' HN2' HG1' HG2' HG12 hx3 hxa
  go_loopw [18] (fun u18 wr => ∃ i : Nat, ∃ xs : List Run, i ≤ N ∧ xs.length = N ∧ u18 = .int .i64 i ∧ OwnR wr (w.heap.size + 1) (.slice ga N gc) xs ∧ Keep (fun k => (Value.slice ga N gc).ownBlock ≠ some k) w3 wr) (fun i _ => N - (intOf i).toNat)
  case atStart => exact ⟨0, X, by omega, HXN.out, rfl, by rw [← hsa]; exact HO3.out, Keep.refl _ _⟩
  case round =>
    obtain ⟨i, xs, hi, hxs, rfl, hown, hkr⟩ := hrel
    have HOW := hid hown
    have HXS := hid hxs
    by_cases hlt : i < N
    · have hlt2 : i < xs.length := by omega
      obtain ⟨rb, rc', e, hrb, hrl, d0, d1', f0, f1⟩ := hown.at i hlt2
      simp only [Value.slice.injEq] at e
      obtain ⟨rfl, -, rfl⟩ := e
      have i1 : (i : Int) < (N : Int) := by omega
      have i3 : (0 : Int) ≤ (i : Int) := by omega
      clear hown hxs
      go_wp2_with fail
      go_roundw
      case rel => exact ⟨i + 1, xs.set i (0, 0), by omega, by rw [List.length_set]; exact HXS.out, by go_num, HOW.out.setRun i (by rw [HXS.out]; exact hlt) 0 0 HXS.out.symm, (hkr.setCell (by simp [Value.ownBlock]) _).setCell (by simp [Value.ownBlock]) _⟩
      case measure => simp [intOf]; omega
    · obtain rfl : i = N := by omega
      clear hown hxs
      go_wp2_with fail
      go_ret
      have hqr := HQR.out
      refine ⟨rfl, q1, q2, s1, L1, ⟨HN3.out.keep hkr (fun e => (hqr _ e).1 rfl) (fun k hk e => (hqr _ e).2.2.1 hk), HR3.out.keep hkr (fun e => (hqr _ e).2.1 rfl) (fun k hk e => (hqr _ e).2.2.2.1 hk), HOK1.out, hne, HQ1b.out, HQ2b.out⟩, ?_, ?_, ?_⟩
      · exact ⟨hkr.os.trans HKA.out.os, hkr.tape.trans HKA.out.tape, hkr.output.trans HKA.out.output, Nat.le_trans HKA.out.size hkr.size, fun k hk hl => (hkr.block k (fun e => by have := (hqr _ e).2.2.2.2; omega) (by have := HKA.out.size; omega)).trans (HKA.out.block k hk hl)⟩
      · rcases HQ1.out with h | h
        · exact .inl h
        · exact .inr fun k hk => by have := h k hk; omega
      · rcases HQ2.out with h | h
        · exact .inl h
        · exact .inr fun k hk => by have := h k hk; omega
end
end Go.Proofs.Ytbpcgfplokkfpaa
