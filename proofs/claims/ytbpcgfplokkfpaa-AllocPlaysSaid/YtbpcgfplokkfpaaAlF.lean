/- Map.All, Map.Free, walked. -/
import Derived.Test.YtbpcgfplokkfpaaAlI
namespace Go.Proofs.Ytbpcgfplokkfpaa
open Go.RowKit Go.Shelf
set_option linter.unusedVariables false
set_option linter.unusedSimpArgs false
attribute [local go_sem] Oper.semAt_some

/-- block g is a map of blocks: in use now, in use at the last Commit; out of blocks of T -/
def MapAt (T : Nat → Prop) (w : World) (g : Nat) (now last : List Bool) : Prop :=
  ∃ vn vl, w.heap[g]? = some (.cells #[vn, vl] 94 (0, 0)) ∧ OwnS rBo 4 w 0 (fun _ => False) vn now ∧ OwnS rBo 4 w 0 (fun _ => False) vl last ∧ last.length = now.length ∧ now.length ≤ 512 ∧
    T g ∧ (∀ k, vn.ownBlock = some k → k ≠ g ∧ vl.ownBlock ≠ some k ∧ T k) ∧ (∀ k, vl.ownBlock = some k → k ≠ g ∧ T k)
theorem MapAt.keep {T : Nat → Prop} {w w' : World} {g : Nat} {now last : List Bool} (h : MapAt T w g now last) (hk : Keep T w w') : MapAt T w' g now last := by
  obtain ⟨vn, vl, h1, h2, h3, h4, h5, h6, h7, h8⟩ := h
  exact ⟨vn, vl, (hk.block g h6 (Array.getElem?_eq_some_iff.1 h1).1).trans h1, h2.kept (hk.mono fun k hk' _ => by rcases hk' with h | h; exact h.elim; exact (h7 k h).2.2), h3.kept (hk.mono fun k hk' _ => by rcases hk' with h | h; exact h.elim; exact (h8 k h).2), h4, h5, h6, h7, h8⟩
theorem MapAt.ext {T : Nat → Prop} {w w' : World} {g : Nat} {now last : List Bool} (h : MapAt T w g now last) (hk : Ext w w') : MapAt T w' g now last := h.keep (hk.keep _)
theorem MapAt.lt {T : Nat → Prop} {w : World} {g : Nat} {now last : List Bool} (h : MapAt T w g now last) : g < w.heap.size := by
  obtain ⟨vn, vl, h1, _⟩ := h; exact (Array.getElem?_eq_some_iff.1 h1).1

set_option maxRecDepth 100000 in
set_option maxHeartbeats 400000 in
theorem MapAll_any (w : World) (p : Option Addr) :
    Calls Try.prog 28 #[.pointer p] w fun e w' => e = .returned (.func (.func 56) #[] #[.pointer (some ⟨w.heap.size, 0, none⟩)]) ∧ w' = w.alloc (.cells #[.pointer p] 34) := by
  go_enter Try.func28, Try.ntmps28
  go_wp2_with fail
  go_ret
  exact ⟨rfl, rfl⟩

set_option maxRecDepth 100000 in
set_option maxHeartbeats 1000000 in
theorem Free_any (T : Nat → Prop) (w : World) (g : Nat) (now last : List Bool) (h : MapAt T w g now last) :
    Calls Try.prog 24 #[.pointer (some ⟨g, 0, none⟩)] w fun e w' => e = .returned (.int .i64 ((freeIdx now last).length : Nat)) ∧ Ext w w' := by
  obtain ⟨vn, vl, h1, h2, h3, h4, h5, -⟩ := h
  have hg := (Array.getElem?_eq_some_iff.1 h1).1
  have H1 := hid h1
  have H2 := hid h2
  have H3 := hid h3
  have H4 := hid h4
  clear h1 h2 h3 h4
  refine (callsIn_wide (n := 6)).1 (callsIn_of_wp_marks Try.func24 rfl trivial ?_ rfl)
  simp only [Try.ntmps24, List.size_toArray, List.length_cons, List.length_nil, Nat.reduceAdd, Nat.reduceSub, Array.replicate_succ, Array.replicate_zero, List.push_toArray, List.append_toArray, List.nil_append, List.cons_append]
  refine wpIn_wide.2 ?_
  go_wp2_with fail
  refine (MapAll_any _ _).mono ?_
  rintro e w' ⟨rfl, rfl⟩
  go_wp2_with fail
  obtain ⟨W, hW⟩ : ∃ W, W = ((w.alloc (.cells #[.int .i64 0] 3)).alloc (.cells #[.pointer (some ⟨g, 0, none⟩)] 34)) := ⟨_, rfl⟩
  have hx : Ext w W := by rw [hW]; exact ((Ext.refl w).alloc _).alloc _
  have hsz : W.heap.size = w.heap.size + 2 := by rw [hW]; simp
  have hB : W.heap[w.heap.size]? = some (.cells #[.int .i64 0] 3 (0, 0)) := by
    rw [hW]; exact (Below.block ((Ext.refl (w.alloc (.cells #[.int .i64 0] 3))).alloc _) w.heap.size (by simp)).trans (heap_alloc_new _ _)
  have hM : W.heap[w.heap.size + 1]? = some (.cells #[.pointer (some ⟨g, 0, none⟩)] 34 (0, 0)) := by
    rw [hW]; have := heap_alloc_new (w.alloc (.cells #[.int .i64 0] 3)) (.cells #[.pointer (some ⟨g, 0, none⟩)] 34); rwa [heap_alloc_sz] at this
  rw [← hW]
  clear hW
  obtain ⟨Bn, hBn⟩ : ∃ Bn, Bn = w.heap.size := ⟨_, rfl⟩
  rw [← hBn] at hB ⊢
  have hseq := All1_seq 5 W g (w.heap.size + 1) vn vl now last ((cell_of_row _ _ 0 _ _ _ hM).trans rfl) ((cell_of_row _ _ 0 _ _ _ ((Below.block hx g hg).trans H1.out)).trans rfl) ((cell_of_row _ _ 1 _ _ _ ((Below.block hx g hg).trans H1.out)).trans rfl) (H2.out.rdT.ext hx) (H3.out.rdT.ext hx) H4.out h5
  rw [← hBn] at hseq
  have HX := hid hx
  have HB := hid hB
  have HBN := hid hBn
  have HSZ := hid hsz
  clear hx hB hM hBn hsz
  refine (wpIn_wide (n := 6)).1 ?_
  refine wpIn_rangeFunc_C (w0 := W) rfl (by omega) (gf := 56) (lb := #[.pointer (some ⟨Bn + 1, 0, none⟩)]) rfl trivial (enters_of Try.func56 (by kernel_rfl) rfl) hseq (Ext.refl _) (fun _ => rfl)
    (fun pre C V => C Bn ∧ V.heap[Bn]? = some (.cells #[.int .i64 ((flat pre).length : Nat)] 3 (0, 0)) ∧ Keep (fun k => k < w.heap.size) w V) (fun _ _ _ _ => False) ?_ (fun _ _ _ _ _ h _ => h) (fun k => k = Bn) (fun k hk => by have h1 := HBN.out; have h2 := HSZ.out; omega) ⟨rfl, HB.out, HX.out.keep _⟩
    (fun x V a₁ V₁ => ∃ Bx, V.heap.size ≤ Bx ∧ V₁.heap[Bx]? = some (.cells #[.int .i64 (x.1 : Int), .int .i64 (x.2 : Int)] 43 (0, 0)) ∧ a₁ = { tmps := #[.pointer (some ⟨g, 0, none⟩), undef, .int .i64 0, .pointer (some ⟨Bn, 0, none⟩), .pointer (some ⟨Bx, 0, none⟩), .pointer (some ⟨g, 0, none⟩), .func (.func 56) #[] #[.pointer (some ⟨Bn + 1, 0, none⟩)], .agg #[.int .i64 (x.1 : Int), .int .i64 (x.2 : Int)], undef, undef, undef, undef, undef], defers := [] }) ?_ ?_ ?_ ?_ ?_
  · rintro s C V V' ⟨q1, q2, q3⟩ hk
    exact ⟨q1, (hk.block _ (.inr q1) (Array.getElem?_eq_some_iff.1 q2).1).trans q2, q3.trans (hk.mono fun k h _ => .inl (by have h2 := HSZ.out; omega))⟩
  · rintro x V a₁ V₁ V₂ ⟨Bx, q1, q2, q3⟩ hk
    exact ⟨Bx, q1, (hk.block _ q1 (Array.getElem?_eq_some_iff.1 q2).1).trans q2, q3⟩
  · intro l x V K hK
    simp only [encR]
    gi_wp2
    exact hK _ _ ⟨_, Nat.le_refl _, heap_alloc_new _ _, rfl⟩ ((Ext.refl V).alloc _)
  · rintro l pre x C V a₁ V₂ ⟨q1, q2, q3⟩ ⟨Bx, hBx, hrx, rfl⟩ p1 p2 p3 hok
    have hfl : (flat (pre ++ [x])).length ≤ 512 := by
      have := hok.2.1.length_le
      have h2 : (freeIdx now last).length ≤ 512 := by
        unfold freeIdx freeBelow
        have := List.length_filter_le (freeAt now last) (List.range now.length)
        rw [List.length_range] at this; omega
      omega
    rw [flat_append, flat_one, List.length_append, List.length_range'] at hfl
    have c0 : V₂.cell? ⟨Bn, 0, none⟩ = some (.int .i64 ((flat pre).length : Nat)) := (cell_of_row _ _ 0 _ _ _ q2).trans rfl
    have c1 : V₂.cell? ⟨Bx, 1, none⟩ = some (.int .i64 (x.2 : Int)) := (cell_of_row _ _ 1 _ _ _ hrx).trans rfl
    have f0 := frozen_blk q2 0
    have Q2 := hid q2
    have Q3 := hid q3
    clear q2 q3 hrx
    gi_wp2
    refine ⟨C, ⟨(Keep.refl _ _).setCell (p := ⟨Bn, 0, none⟩) (fun h => h (.inl q1)) _, fun k hk => ⟨.inl (.inl hk), by simp only [heap_setCell_sz]; have := p3 k hk; omega⟩⟩, q1, (set_blk Q2.out _).trans ?_, Q3.out.setCell (p := ⟨Bn, 0, none⟩) (by have h1 := HBN.out; dsimp only; omega) _⟩
    rw [flat_append, flat_one, List.length_append, List.length_range']
    simp
  · rintro D xs C V hD hCD hS ⟨q1, q2, q3⟩ hdef
    have c0 : V.cell? ⟨Bn, 0, none⟩ = some (.int .i64 ((flat xs).length : Nat)) := (cell_of_row _ _ 0 _ _ _ q2).trans rfl
    rw [hS.2.1] at c0
    have Q3 := hid q3
    have HD := hid hdef
    clear q2 q3 hdef hS
    go_wp2_with fail
    refine ⟨by simp, .inl ⟨_, _, rfl, run_takeDeferred HD.out, ?_⟩⟩
    exact ⟨_, by simp [results, Try.results24, go_sem], rfl, ((Q3.out.trans (keep_putObj V D _ (fun h => by have h2 := HSZ.out; omega))).below w.heap.size (Nat.le_refl _) fun k h => h)⟩
  · rintro D c pre C V hD hCD hok hf hdef
    exact hf.elim
end Go.Proofs.Ytbpcgfplokkfpaa
