/- A range over a map's runs of free blocks, in whatever function. -/
import Derived.Test.YtbpcgfplokkfpaaAlM
namespace Go.Proofs.Ytbpcgfplokkfpaa
open Go.RowKit Go.Shelf
set_option linter.unusedVariables false
set_option linter.unusedSimpArgs false

section
variable {n : Nat}
/-- a range over All: the run lies in a box (slot s), which the round begins with -/
theorem range_runs {g : Operand} {ps : Array Tmp} {assign body : Code} {Q : Exit → Act → World → Prop} {a : Act} {w : World} (s : Nat) {Ba gm : Nat} {now last : List Bool} {T : Nat → Prop}
    (h1 : 1 ≤ n) (hg : a.eval g = .func (.func 56) #[] #[.pointer (some ⟨Ba, 0, none⟩)]) (hm : MapAt T w gm now last) (hBa : w.cell? ⟨Ba, 0, none⟩ = some (.pointer (some ⟨gm, 0, none⟩))) (hps : ps.size = 1)
    (I : List (Nat × Nat) → Blk → World → Prop) (Ix : Code → List (Nat × Nat) → Blk → World → Prop) (hI : Stab w.heap.size I) (hIx : ∀ c, Stab w.heap.size (Ix c)) (C0 : Blk) (hC0 : ∀ k, C0 k → k < w.heap.size) (h0 : I [] C0 w)
    (hassign : ∀ (l : Nat) (x : Nat × Nat) (W : World) (K : Act → World → Prop), (∀ Bx a₁ W₁, W.heap.size ≤ Bx → W₁.heap[Bx]? = some (.cells #[.int .i64 (x.1 : Int), .int .i64 (x.2 : Int)] 43 (0, 0)) → Ext W W₁ → a₁ = { tmps := ((ps.zip (encR x)).foldl (fun t (p, v) => t.setIfInBounds p v) a.tmps).setIfInBounds s (.pointer (some ⟨Bx, 0, none⟩)), defers := [] } → K a₁ W₁) →
      assign.wpIn (Fence.wide.inRound l) (n - 1 - 1) Try.prog (Exit.then K (fun _ _ _ => False)) { tmps := (ps.zip (encR x)).foldl (fun t (p, v) => t.setIfInBounds p v) a.tmps, defers := [] } W)
    (hbody : ∀ (l : Nat) (pre : List (Nat × Nat)) (x : Nat × Nat) (C : Blk) (W : World) (Bx : Nat) (W₂ : World), I pre C W₂ → W.heap.size ≤ Bx → W₂.heap[Bx]? = some (.cells #[.int .i64 (x.1 : Int), .int .i64 (x.2 : Int)] 43 (0, 0)) → w.heap.size < W.heap.size → W.heap.size ≤ W₂.heap.size → (∀ k, C k → k < W.heap.size) → RunsOk now last (pre ++ [x]) →
      body.wpIn (Fence.wide.inRound l) (n - 1 - 1) Try.prog (postC (fun k => C k ∨ W.heap.size ≤ k) I Ix (pre ++ [x]) W₂) { tmps := ((ps.zip (encR x)).foldl (fun t (p, v) => t.setIfInBounds p v) a.tmps).setIfInBounds s (.pointer (some ⟨Bx, 0, none⟩)), defers := [] } W₂)
    (hdone : ∀ (D : Nat) (xs : List (Nat × Nat)) (C : Blk) (W : World), w.heap.size ≤ D → ¬ C D → RunsAll now last xs → I xs C W → W.heap[D]? = some (.deferred (some [])) → Q .normal { a with defers := { target := .collected D, args := #[] } :: a.defers } W)
    (hstop : ∀ (D : Nat) (c : Code) (pre : List (Nat × Nat)) (C : Blk) (W : World), w.heap.size ≤ D → ¬ C D → RunsOk now last pre → Ix c pre C W → W.heap[D]? = some (.deferred (some [])) → c.wpIn Fence.wide n Try.prog Q { a with defers := { target := .collected D, args := #[] } :: a.defers } W) :
    (Code.rangeFunc g ps assign body).wpIn Fence.wide n Try.prog Q a w := by
  obtain ⟨vn, vl, g1, g2, g3, g4, g5, -⟩ := hm
  have hseq := All1_seq (n - 1) w gm Ba vn vl now last hBa ((cell_of_row _ _ 0 _ _ _ g1).trans rfl) ((cell_of_row _ _ 1 _ _ _ g1).trans rfl) g2.rdT g3.rdT g4 g5
  refine wpIn_rangeFunc_C (w0 := w) rfl h1 (gf := 56) (lb := #[.pointer (some ⟨Ba, 0, none⟩)]) hg trivial (enters_of Try.func56 (by kernel_rfl) rfl) hseq (Ext.refl _) (fun _ => by rw [hps]; rfl) I Ix hI hIx C0 hC0 h0
    (fun x V a₁ V₁ => ∃ Bx, V.heap.size ≤ Bx ∧ V₁.heap[Bx]? = some (.cells #[.int .i64 (x.1 : Int), .int .i64 (x.2 : Int)] 43 (0, 0)) ∧ a₁ = { tmps := ((ps.zip (encR x)).foldl (fun t (p, v) => t.setIfInBounds p v) a.tmps).setIfInBounds s (.pointer (some ⟨Bx, 0, none⟩)), defers := [] }) ?_ ?_ ?_ hdone hstop
  · rintro x V a₁ V₁ V₂ ⟨Bx, q1, q2, q3⟩ hk
    exact ⟨Bx, q1, (hk.block _ q1 (Array.getElem?_eq_some_iff.1 q2).1).trans q2, q3⟩
  · intro l x V K hK
    exact hassign l x V K fun Bx a₁ W₁ q1 q2 q3 q4 => hK _ _ ⟨Bx, q1, q2, q4⟩ q3
  · rintro l pre x C V a₁ V₂ hI' ⟨Bx, hBx, hrx, rfl⟩ p1 p2 p3 hok
    exact hbody l pre x C V Bx V₂ hI' hBx hrx p1 p2 p3 hok
end
end Go.Proofs.Ytbpcgfplokkfpaa
