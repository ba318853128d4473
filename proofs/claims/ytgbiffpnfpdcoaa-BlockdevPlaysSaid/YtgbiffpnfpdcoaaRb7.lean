/- a device and the document's one side by side; cartularylaw02.asked. -/
import Derived.Test.YtgbiffpnfpdcoaaRbN
import Derived.Test.YtgbiffpnfpdcoaaSameI
import Derived.Test.YtgbiffpnfpdcoaaCall2
namespace Go.Proofs.Ytgbiffpnfpdcoaa
open Go.RowKit Go.Maps
set_option linter.unusedVariables false
set_option linter.unusedSimpArgs false

theorem OwnS.row1 {α : Type} {r : Rdr α} {t : TypeId} {w : World} {base : Nat} {S : Nat → Prop} {v : Value} {xs : List α} (h : OwnS r t w base S v xs) (h1 : r.size = 1) (hn : 0 < xs.length) :
    ∃ g cap cur, v = .slice (some ⟨g, 0, none⟩) xs.length cap ∧ base ≤ g ∧ w.heap[g]? = some (.cells cur t (0, 0)) ∧ xs.length ≤ cur.size := by
  obtain ⟨gs, rfl, ⟨h1', h2⟩, h3, h4⟩ := h
  rw [List.length_map] at hn
  rcases h2 with ⟨h2, h2'⟩ | ⟨g', cap', cur, h2, hb, hg, hn', hm, hcs, hx⟩
  · omega
  · rw [h1] at hcs
    exact ⟨g', cap', cur, by rw [List.length_map]; exact h2, hb, hg, by rw [List.length_map]; omega⟩
/-- a row that is written over, cell by cell -/
theorem row_some {w : World} {g i : Nat} {cur : Array Value} {t : TypeId} (h : w.heap[g]? = some (.cells cur t (0, 0))) (hi : i < cur.size) : w.cell? ⟨g, i, none⟩ = some cur[i] := by
  rw [cell_of_row _ _ _ _ _ _ h, Array.getElem?_eq_getElem hi]

theorem quiet_eq {P : Program} {f : FuncId} {args : Array Value} {w : World} {n : Nat} {v : Value} (h : Calls P f args (w.drewN n) fun e w' => e = .returned v ∧ w.drewN n = w') : Calls P f args (w.drewN n) fun e w'' => e = .returned v ∧ ∃ m, w'' = w.drewN m :=
  h.mono fun _ _ ⟨he, hm⟩ => ⟨he, n, hm.symm⟩
/-- a device at g and the document's at rg, both standing as d -/
structure Pr (w : World) (B M g rg : Nat) (ρ : Nat → Option DRol) (R : Nat → Prop) (d : Dv) : Prop where
  dv : DvAt w g ρ M d
  ref : ∃ sv pv rf P, RAt w B M rg sv pv rf d P ∧ ∀ k, R k ↔ RBl rg sv pv k
  low : ∀ k, ρ k ≠ none → B ≤ k
  apart : ∀ k, R k → ρ k = none
/-- the blocks of both -/
def PB (ρ : Nat → Option DRol) (R : Nat → Prop) (k : Nat) : Prop := ρ k ≠ none ∨ R k
theorem DvAt.lt' {w : World} {g N : Nat} {ρ : Nat → Option DRol} {d : Dv} (h : DvAt w g ρ N d) {k : Nat} (hk : ρ k ≠ none) : k < w.heap.size := by
  obtain ⟨_, _, _, h⟩ := h; exact h.lt k hk
section
variable {w w' : World} {B M g rg : Nat} {ρ : Nat → Option DRol} {R : Nat → Prop} {d : Dv}
theorem Pr.lt (h : Pr w B M g rg ρ R d) {k : Nat} (hk : PB ρ R k) : B ≤ k ∧ k < w.heap.size := by
  rcases hk with hk | hk
  · exact ⟨h.low k hk, h.dv.lt' hk⟩
  · obtain ⟨sv, pv, rf, P, hr, hR⟩ := h.ref
    exact hr.lt ((hR k).1 hk)
theorem Pr.kept (h : Pr w B M g rg ρ R d) (hk : Keep (PB ρ R) w w') : Pr w' B M g rg ρ R d := by
  obtain ⟨sv, pv, rf, P, hr, hR⟩ := h.ref
  exact ⟨h.dv.keep (hk.mono fun k hk _ => .inl hk), ⟨sv, pv, rf, P, hr.kept (hk.mono fun k hk _ => .inr ((hR k).2 hk)), hR⟩, h.low, h.apart⟩
theorem Pr.ext (h : Pr w B M g rg ρ R d) (hx : Ext w w') : Pr w' B M g rg ρ R d := h.kept (hx.keep _)
theorem Pr.mono {M' : Nat} (h : Pr w B M g rg ρ R d) (hm : M ≤ M') : Pr w B M' g rg ρ R d := by
  obtain ⟨sv, pv, rf, P, hr, hR⟩ := h.ref
  exact ⟨h.dv.mono hm, ⟨sv, pv, rf, P, hr.mono hm, hR⟩, h.low, h.apart⟩
/-- what an operation on both comes to -/
def PrNext (w w' : World) (B M' g rg : Nat) (ρ : Nat → Option DRol) (R : Nat → Prop) (d' : Dv) : Prop :=
  ∃ ρ' R', Pr w' B M' g rg ρ' R' d' ∧ (∀ k, PB ρ' R' k → PB ρ R k ∨ w.heap.size ≤ k) ∧ Keep (fun k => ¬ PB ρ R k) w w'
theorem Pr.same {M' : Nat} (h : Pr w B M g rg ρ R d) (hm : M ≤ M') (hx : Ext w w') : PrNext w w' B M' g rg ρ R d := ⟨ρ, R, (h.ext hx).mono hm, fun k hk => .inl hk, hx.keep _⟩
theorem Pr.next {wa wb wc wd : World} {M' : Nat} {sv pv : Value} {rf : Int} {P : List (Int × Bk)} {d' : Dv} (h : Pr w B M g rg ρ R d) (hr : RAt w B M rg sv pv rf d P) (hR : ∀ k, R k ↔ RBl rg sv pv k)
    {ρ' : Nat → Option DRol} (h1 : DvAt wa g ρ' M' d') (k1 : Keep (fun k => ρ k = none) w wa) (f1 : ∀ k, ρ' k ≠ none → ρ k ≠ none ∨ w.heap.size ≤ k)
    (hx : Ext wa wb) {sv' pv' : Value} {rf' : Int} {P' : List (Int × Bk)} (h2 : RAt wc B M' rg sv' pv' rf' d' P') (k2 : Keep (fun k => ¬ RBl rg sv pv k) wb wc) (f2 : ∀ k, RBl rg sv' pv' k → RBl rg sv pv k ∨ wb.heap.size ≤ k)
    (k3 : Keep (fun k => k < w.heap.size ∨ ρ' k ≠ none ∨ RBl rg sv' pv' k) wc wd) : PrNext w wd B M' g rg ρ R d' := by
  have hz1 := k1.size
  have hz2 := hx.size
  have hz3 := k2.size
  have hRl : ∀ k, RBl rg sv pv k → k < w.heap.size := fun k hk => (hr.lt hk).2
  have hn' : ∀ k, RBl rg sv' pv' k → ρ' k = none := fun k hk => by
    by_cases e : ρ' k = none
    · exact e
    · have l1 := h1.lt' e
      rcases f2 k hk with h3 | h3
      · have h4 := h.apart k ((hR k).2 h3)
        rcases f1 k e with h5 | h5
        · exact absurd h4 h5
        · have := hRl k h3; omega
      · omega
  refine ⟨ρ', fun k => RBl rg sv' pv' k, ⟨((h1.ext hx).keep (k2.mono fun k hk hl => ?_)).keep (k3.mono fun k hk _ => .inr (.inl hk)), ⟨sv', pv', rf', P', h2.kept (k3.mono fun k hk _ => .inr (.inr hk)), fun k => Iff.rfl⟩, fun k hk => ?_, hn'⟩, fun k hk => ?_, ?_⟩
  · intro e
    rcases f1 k hk with h5 | h5
    · exact h5 (h.apart k ((hR k).2 e))
    · have := hRl k e; omega
  · rcases f1 k hk with h5 | h5
    · exact h.low k h5
    · have := (hr.lt (.inl rfl : RBl rg sv pv rg)); omega
  · rcases hk with hk | hk
    · rcases f1 k hk with h5 | h5
      · exact .inl (.inl h5)
      · exact .inr h5
    · rcases f2 k hk with h5 | h5
      · exact .inl (.inr ((hR k).2 h5))
      · exact .inr (by omega)
  · have q1 : Keep (fun k => ¬ PB ρ R k ∧ k < w.heap.size) w wa := k1.mono fun k hk _ => by
      by_cases e : ρ k = none
      · exact e
      · exact absurd (.inl e) hk.1
    exact (((q1.trans (hx.keep _)).trans (k2.mono fun k hk _ e => hk.1 (.inr ((hR k).2 e)))).trans (k3.mono fun k hk _ => .inl hk.2)).mono fun k hk hl => ⟨hk, hl⟩
theorem Pr.ref1 {wa wb : World} {sv pv : Value} {rf : Int} {P : List (Int × Bk)} (h : Pr w B M g rg ρ R d) (hr : RAt w B M rg sv pv rf d P) (hR : ∀ k, R k ↔ RBl rg sv pv k) (k1 : Keep (fun k => ρ k = none) w wa) (hx : Ext wa wb) : RAt wb B M rg sv pv rf d P :=
  (hr.kept (k1.mono fun k hk _ => h.apart k ((hR k).2 hk))).ext hx
end

set_option maxRecDepth 100000 in
set_option maxHeartbeats 2000000 in
theorem asked02_any {w : World} {B M g rg : Nat} {ρ : Nat → Option DRol} {R : Nat → Prop} {d : Dv} (h : Pr w B M g rg ρ R d) (hM : M ≤ 900000) :
    Calls Try.prog 41 #[.pointer (some ⟨g, 0, none⟩), .pointer (some ⟨rg, 0, none⟩)] w fun e w' => e = .returned (.bool true) ∧ Ext w w' := by
  obtain ⟨sv, pv, rf, P, hr, hR⟩ := h.ref
  have HR := hid hr
  have HDV := hid h.dv
  have hgl := hr.glt
  clear h hR hr
  go_enter Try.func41, Try.ntmps41
  go_wp2_with fail
  refine (Pending_any w g ρ M d HDV.out (by omega)).mono ?_
  rintro e w1 ⟨v1, rfl, ho1, hx1⟩
  have HO1 := hid ho1
  have HX1 := hid hx1
  clear ho1 hx1
  go_wp2_with fail
  refine (RBlocks_any (HR.out.ext HX1.out) (by omega)).mono ?_
  rintro e w2 ⟨v2, rfl, ho2, hx2⟩
  have HO2 := hid ho2
  have HX2 := hid (HX1.out.trans hx2)
  have HO1 := hid (HO1.out.kept (hx2.keep _))
  clear ho2 hx2
  go_wp2_with fail
  refine (SameInts_any w2 v1 v2 (pendL d) (pendL d) (rdS_ints HO1.out.rd).1 (rdS_ints HO2.out.rd).1).mono ?_
  rintro e w3 ⟨rfl, hb3⟩
  have hx3 : Ext w2 w3 := Ext.of hb3
  have HO1 := hid (HO1.out.kept (hx3.keep _))
  have HX3 := hid (HX2.out.trans hx3)
  clear hb3 hx3 HX2 HX1 HO2
  obtain ⟨a1, c1, hv1⟩ := HO1.out.slice
  subst hv1
  simp only [decide_true]
  have hrow : 0 < (pendL d).length → ∃ k cur, a1 = some ⟨k, 0, none⟩ ∧ w.heap.size ≤ k ∧ w3.heap[k]? = some (.cells cur 3 (0, 0)) ∧ (pendL d).length ≤ cur.size := fun h0 => by
    obtain ⟨k, cap, cur, e, h1, h2, h3⟩ := HO1.out.row1 rfl h0
    simp only [Value.slice.injEq] at e
    exact ⟨k, cur, e.1, h1, h2, h3⟩
  have HROW := hid hrow
  generalize hL : (pendL d).length = L at HROW HO1 ⊢
  clear hrow
  have hLl : L ≤ 512 := by
    rw [← hL, pendL_len]
    obtain ⟨_, _, _, h⟩ := HDV.out
    exact Nat.le_trans (pendN_len d) h.size.2
  clear hL
  go_wp2_with fail
  go_loopw [7] (fun u7 wr => ∃ i : Nat, u7 = .int .i64 i ∧ i ≤ L ∧ (0 < L → ∃ k cur, a1 = some ⟨k, 0, none⟩ ∧ w.heap.size ≤ k ∧ wr.heap[k]? = some (.cells cur 3 (0, 0)) ∧ L ≤ cur.size) ∧ Keep (fun k => k < w.heap.size) w wr) (fun u7 _ => L - (intOf u7).toNat)
  case atStart => exact ⟨0, rfl, Nat.zero_le _, HROW.out, HX3.out.keep _⟩
  case round =>
    obtain ⟨i, rfl, hi, hrr, hk⟩ := hrel
    have HK := hid hk
    by_cases hlt : i < L
    · obtain ⟨k, cur, rfl, hk1, hk2, hk3⟩ := hrr (by omega)
      have i1 : (i : Int) < (L : Int) := by omega
      have hw1 : IntKind.i64.wrap ((i : Int) + 1) = (i : Int) + 1 := by rw [IntKind.wrap_i64]; omega
      have c0 := row_some hk2 (i := i) (by omega)
      have f0 := blk_fro hk2 i
      have HK2 := hid hk2
      have HS := hid (show L ≤ (cur.setIfInBounds i (.int .i64 (-4))).size by simp; exact hk3)
      generalize cur[i] = old at c0
      clear hrr hk hk2
      go_wp2_with fail
      refine ⟨⟨i + 1, rfl, by omega, fun _ => ⟨k, _, rfl, hk1, blk_set HK2.out _, HS.out⟩, HK.out.setCell (fun h => by simp only at h; omega) _⟩, by simp only [intOf]; omega⟩
    · have i1 : ¬ (i : Int) < (L : Int) := by omega
      have hx : Ext w wr := Keep.ext (hk.mono fun k _ hl => hl)
      have hdv := hid fun n => (HDV.out.ext hx).ext ((Ext.refl wr).drewN n)
      have hr := HR.out.ext hx
      obtain ⟨sa, sc, hsv⟩ := hr.safe.slice
      subst hsv
      have c0 := hr.c0
      have c3 := hr.c3
      have c4 := hr.c4
      have d1 : decide (true = true) = true := rfl
      have HX := hid hx
      clear hrr hk hr
      go_wp2_with fail
      go_quiet (first | (go_at_call 43; refine quiet_eq (Blocks_any (hdv.out _))) | (go_at_call 35; refine quiet_eq (Down_any (hdv.out _))) | (go_at_call 36; refine quiet_eq (Ops_any (hdv.out _))))
      go_wp2_with fail
      go_ret
      exact ⟨rfl, by (· repeat (first | (with_reducible assumption) | exact Ext.refl _ | refine Ext.alloc ?_ _ | refine Ext.drew ?_ | refine Ext.drewN ?_ _ | (apply Ext.snart; (with_reducible assumption))))⟩
end Go.Proofs.Ytgbiffpnfpdcoaa
