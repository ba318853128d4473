/- InodePlays: what a Copy does to the two pairs. -/
import Derived.Test.YtbpcgfplokkfpaaPlaysW
namespace Go.Proofs.Ytbpcgfplokkfpaa
open Go.RowKit
set_option linter.unusedVariables false
set_option linter.unusedSimpArgs false

theorem NodeAt.rowLt {w : World} {g : Nat} {q : Option Nat} {s : Int} {L : List Int} (h : NodeAt w g q s L) : (∀ k, q = some k → k < w.heap.size) ∧ q ≠ some g := by
  obtain ⟨_, _, _, _, h4, h5, _⟩ := h
  exact ⟨h5, h4⟩
theorem RNodeAt.rowLt {w : World} {g : Nat} {q : Option Nat} {s : Int} {L : List Int} (h : RNodeAt w g q s L) : (∀ k, q = some k → k < w.heap.size) ∧ q ≠ some g := by
  obtain ⟨_, _, _, _, h4, h5⟩ := h
  exact ⟨h5, h4⟩
theorem Pair6.keep {w w' : World} {g g' : Nat} {q q' : Option Nat} {s : Int} {L : List Int} (h : Pair6 w g g' q q' s L) {b : Nat} (hk : Keep (fun k => k ≠ b) w w') (h1 : g ≠ b) (h2 : g' ≠ b) (h3 : q ≠ some b) (h4 : q' ≠ some b) : Pair6 w' g g' q q' s L :=
  ⟨h.node.keep hk h1 (fun k hk' e => h3 (by rw [hk', e])), h.rnode.keep hk h2 (fun k hk' e => h4 (by rw [hk', e])), h.ok, h.ne, h.qne, h.qne'⟩
section
variable {w w1 w2 : World} {base bf br gA gB rA rB gN rN : Nat} {qA qB pA pB qN pN : Option Nat} {sA sB : Int} {LA LB : List Int}

theorem Duo6.copyA (h : Duo6 w base bf br gA gB rA rB qA qB pA pB sA sB LA LB) (hb : base ≤ w.heap.size) (hx1 : Ext w w1) (hN : NodeAt w1 gN qN sA LA) (hgN : w.heap.size ≤ gN) (hqN : ∀ k, qN = some k → w.heap.size ≤ k)
    (hx2 : Ext (w1.setCell ⟨bf, 1, none⟩ (.pointer (some ⟨gN, 0, none⟩))) w2) (hR : RNodeAt w2 rN pN sA LA) (hrN : (w1.setCell ⟨bf, 1, none⟩ (.pointer (some ⟨gN, 0, none⟩))).heap.size ≤ rN) (hpN : ∀ k, pN = some k → (w1.setCell ⟨bf, 1, none⟩ (.pointer (some ⟨gN, 0, none⟩))).heap.size ≤ k) :
    Duo6 (w2.setCell ⟨br, 1, none⟩ (.pointer (some ⟨rN, 0, none⟩))) base bf br gA gN rA rN qA qN pA pN sA sA LA LA := by
  have hnd := h.nd
  simp only [List.nodup_cons, List.mem_cons, List.not_mem_nil, or_false, not_or, not_false_eq_true, List.nodup_nil, and_true] at hnd
  have hlb := h.lo bf (by simp)
  have hlr := h.lo br (by simp)
  have hlg := h.lo gA (by simp)
  have hlrA := h.lo rA (by simp)
  have hs1 := hx1.size
  have hss : (w1.setCell ⟨bf, 1, none⟩ (.pointer (some ⟨gN, 0, none⟩))).heap.size = w1.heap.size := by simp [World.setCell]
  rw [hss] at hrN hpN
  have hs2 := hx2.size
  rw [hss] at hs2
  have hgl := hN.lt
  have hrl := hR.lt
  obtain ⟨qN1, qN2⟩ := hN.rowLt
  obtain ⟨pN1, pN2⟩ := hR.rowLt
  obtain ⟨qA1, -⟩ := h.a.node.rowLt
  obtain ⟨pA1, -⟩ := h.a.rnode.rowLt
  have K1 : Keep (fun k => k ≠ bf) w1 (w1.setCell ⟨bf, 1, none⟩ (.pointer (some ⟨gN, 0, none⟩))) := (Keep.refl _ w1).setCell (by simp) _
  have K3 : Keep (fun k => k ≠ br) w2 (w2.setCell ⟨br, 1, none⟩ (.pointer (some ⟨rN, 0, none⟩))) := (Keep.refl _ w2).setCell (by simp) _
  have hf1 : w1.heap[bf]? = _ := (Below.block hx1 bf hlb.2).trans h.f
  have hr1 : w1.heap[br]? = _ := (Below.block hx1 br hlr.2).trans h.r
  have hr2 := (Below.block hx2 br (by rw [hss]; omega)).trans ((K1.block br (by omega) (by omega)).trans hr1)
  have hpa : Pair6 (w2.setCell ⟨br, 1, none⟩ (.pointer (some ⟨rN, 0, none⟩))) gA rA qA pA sA LA :=
    (((h.a.ext hx1).keep K1 (by omega) (by omega) (h.ap qA (by simp) bf (by simp)) (h.ap pA (by simp) bf (by simp))).ext hx2).keep K3 (by omega) (by omega) (h.ap qA (by simp) br (by simp)) (h.ap pA (by simp) br (by simp))
  have hpn : Pair6 (w2.setCell ⟨br, 1, none⟩ (.pointer (some ⟨rN, 0, none⟩))) gN rN qN pN sA LA :=
    ⟨((hN.keep K1 (by omega) (fun k hk e => by have := hqN k hk; omega)).ext hx2).keep K3 (by omega) (fun k hk e => by have := hqN k hk; omega), hR.keep K3 (by omega) (fun k hk e => by have := hpN k hk; omega), h.a.ok, by omega, fun e => by have := qN1 _ e; omega, fun e => by have := hpN _ e; omega⟩
  have hz3 := K3.size
  refine ⟨?_, ?_, hpa, hpn, ?_, ?_, ?_⟩
  · rw [K3.block bf (by omega) (by omega), Below.block hx2 bf (by rw [hss]; omega), set_row hf1 _]; rfl
  · rw [set_row hr2 _]; rfl
  · simp only [List.nodup_cons, List.mem_cons, List.not_mem_nil, or_false, not_or, not_false_eq_true, List.nodup_nil, and_true]
    omega
  · intro z hz
    simp only [List.mem_cons, List.not_mem_nil, or_false] at hz
    rcases hz with rfl | rfl | rfl | rfl | rfl | rfl <;> omega
  · intro x hx z hz e
    simp only [List.mem_cons, List.not_mem_nil, or_false] at hx hz
    have e1 : ∀ k, qA = some k → k ≠ bf ∧ k ≠ br ∧ k ≠ gA ∧ k ≠ rA := fun k hk => ⟨fun e => h.ap qA (by simp) bf (by simp) (by rw [hk, e]), fun e => h.ap qA (by simp) br (by simp) (by rw [hk, e]), fun e => h.ap qA (by simp) gA (by simp) (by rw [hk, e]), fun e => h.ap qA (by simp) rA (by simp) (by rw [hk, e])⟩
    have e2 : ∀ k, pA = some k → k ≠ bf ∧ k ≠ br ∧ k ≠ gA ∧ k ≠ rA := fun k hk => ⟨fun e => h.ap pA (by simp) bf (by simp) (by rw [hk, e]), fun e => h.ap pA (by simp) br (by simp) (by rw [hk, e]), fun e => h.ap pA (by simp) gA (by simp) (by rw [hk, e]), fun e => h.ap pA (by simp) rA (by simp) (by rw [hk, e])⟩
    have e3 : ∀ k, qN = some k → k ≠ gN := fun k hk e => qN2 (by rw [hk, e])
    have e4 : ∀ k, pN = some k → k ≠ rN := fun k hk e => pN2 (by rw [hk, e])
    have key : ∀ k, (qA = some k ∨ qN = some k ∨ pA = some k ∨ pN = some k) → k ≠ bf ∧ k ≠ br ∧ k ≠ gA ∧ k ≠ rA ∧ k ≠ gN ∧ k ≠ rN := by
      intro k hk
      rcases hk with hk | hk | hk | hk
      · have := e1 k hk; have := qA1 k hk; omega
      · have := e3 k hk; have := qN1 k hk; have := hqN k hk; omega
      · have := e2 k hk; have := pA1 k hk; omega
      · have := e4 k hk; have := pN1 k hk; have := hpN k hk; omega
    have hk : qA = some z ∨ qN = some z ∨ pA = some z ∨ pN = some z := by
      rcases hx with rfl | rfl | rfl | rfl
      all_goals first | exact .inl e | exact .inr (.inl e) | exact .inr (.inr (.inl e)) | exact .inr (.inr (.inr e))
    have := key z hk
    omega

theorem Duo6.copyB (h : Duo6 w base bf br gA gB rA rB qA qB pA pB sA sB LA LB) (hb : base ≤ w.heap.size) (hx1 : Ext w w1) (hN : NodeAt w1 gN qN sB LB) (hgN : w.heap.size ≤ gN) (hqN : ∀ k, qN = some k → w.heap.size ≤ k)
    (hx2 : Ext (w1.setCell ⟨bf, 0, none⟩ (.pointer (some ⟨gN, 0, none⟩))) w2) (hR : RNodeAt w2 rN pN sB LB) (hrN : (w1.setCell ⟨bf, 0, none⟩ (.pointer (some ⟨gN, 0, none⟩))).heap.size ≤ rN) (hpN : ∀ k, pN = some k → (w1.setCell ⟨bf, 0, none⟩ (.pointer (some ⟨gN, 0, none⟩))).heap.size ≤ k) :
    Duo6 (w2.setCell ⟨br, 0, none⟩ (.pointer (some ⟨rN, 0, none⟩))) base bf br gN gB rN rB qN qB pN pB sB sB LB LB := by
  have hnd := h.nd
  simp only [List.nodup_cons, List.mem_cons, List.not_mem_nil, or_false, not_or, not_false_eq_true, List.nodup_nil, and_true] at hnd
  have hlb := h.lo bf (by simp)
  have hlr := h.lo br (by simp)
  have hlg := h.lo gB (by simp)
  have hlrA := h.lo rB (by simp)
  have hs1 := hx1.size
  have hss : (w1.setCell ⟨bf, 0, none⟩ (.pointer (some ⟨gN, 0, none⟩))).heap.size = w1.heap.size := by simp [World.setCell]
  rw [hss] at hrN hpN
  have hs2 := hx2.size
  rw [hss] at hs2
  have hgl := hN.lt
  have hrl := hR.lt
  obtain ⟨qN1, qN2⟩ := hN.rowLt
  obtain ⟨pN1, pN2⟩ := hR.rowLt
  obtain ⟨qA1, -⟩ := h.b.node.rowLt
  obtain ⟨pA1, -⟩ := h.b.rnode.rowLt
  have K1 : Keep (fun k => k ≠ bf) w1 (w1.setCell ⟨bf, 0, none⟩ (.pointer (some ⟨gN, 0, none⟩))) := (Keep.refl _ w1).setCell (by simp) _
  have K3 : Keep (fun k => k ≠ br) w2 (w2.setCell ⟨br, 0, none⟩ (.pointer (some ⟨rN, 0, none⟩))) := (Keep.refl _ w2).setCell (by simp) _
  have hf1 : w1.heap[bf]? = _ := (Below.block hx1 bf hlb.2).trans h.f
  have hr1 : w1.heap[br]? = _ := (Below.block hx1 br hlr.2).trans h.r
  have hr2 := (Below.block hx2 br (by rw [hss]; omega)).trans ((K1.block br (by omega) (by omega)).trans hr1)
  have hpa : Pair6 (w2.setCell ⟨br, 0, none⟩ (.pointer (some ⟨rN, 0, none⟩))) gB rB qB pB sB LB :=
    (((h.b.ext hx1).keep K1 (by omega) (by omega) (h.ap qB (by simp) bf (by simp)) (h.ap pB (by simp) bf (by simp))).ext hx2).keep K3 (by omega) (by omega) (h.ap qB (by simp) br (by simp)) (h.ap pB (by simp) br (by simp))
  have hpn : Pair6 (w2.setCell ⟨br, 0, none⟩ (.pointer (some ⟨rN, 0, none⟩))) gN rN qN pN sB LB :=
    ⟨((hN.keep K1 (by omega) (fun k hk e => by have := hqN k hk; omega)).ext hx2).keep K3 (by omega) (fun k hk e => by have := hqN k hk; omega), hR.keep K3 (by omega) (fun k hk e => by have := hpN k hk; omega), h.b.ok, by omega, fun e => by have := qN1 _ e; omega, fun e => by have := hpN _ e; omega⟩
  have hz3 := K3.size
  refine ⟨?_, ?_, hpn, hpa, ?_, ?_, ?_⟩
  · rw [K3.block bf (by omega) (by omega), Below.block hx2 bf (by rw [hss]; omega), set_row hf1 _]; rfl
  · rw [set_row hr2 _]; rfl
  · simp only [List.nodup_cons, List.mem_cons, List.not_mem_nil, or_false, not_or, not_false_eq_true, List.nodup_nil, and_true]
    omega
  · intro z hz
    simp only [List.mem_cons, List.not_mem_nil, or_false] at hz
    rcases hz with rfl | rfl | rfl | rfl | rfl | rfl <;> omega
  · intro x hx z hz e
    simp only [List.mem_cons, List.not_mem_nil, or_false] at hx hz
    have e1 : ∀ k, qB = some k → k ≠ bf ∧ k ≠ br ∧ k ≠ gB ∧ k ≠ rB := fun k hk => ⟨fun e => h.ap qB (by simp) bf (by simp) (by rw [hk, e]), fun e => h.ap qB (by simp) br (by simp) (by rw [hk, e]), fun e => h.ap qB (by simp) gB (by simp) (by rw [hk, e]), fun e => h.ap qB (by simp) rB (by simp) (by rw [hk, e])⟩
    have e2 : ∀ k, pB = some k → k ≠ bf ∧ k ≠ br ∧ k ≠ gB ∧ k ≠ rB := fun k hk => ⟨fun e => h.ap pB (by simp) bf (by simp) (by rw [hk, e]), fun e => h.ap pB (by simp) br (by simp) (by rw [hk, e]), fun e => h.ap pB (by simp) gB (by simp) (by rw [hk, e]), fun e => h.ap pB (by simp) rB (by simp) (by rw [hk, e])⟩
    have e3 : ∀ k, qN = some k → k ≠ gN := fun k hk e => qN2 (by rw [hk, e])
    have e4 : ∀ k, pN = some k → k ≠ rN := fun k hk e => pN2 (by rw [hk, e])
    have key : ∀ k, (qB = some k ∨ qN = some k ∨ pB = some k ∨ pN = some k) → k ≠ bf ∧ k ≠ br ∧ k ≠ gB ∧ k ≠ rB ∧ k ≠ gN ∧ k ≠ rN := by
      intro k hk
      rcases hk with hk | hk | hk | hk
      · have := e1 k hk; have := qA1 k hk; omega
      · have := e3 k hk; have := qN1 k hk; have := hqN k hk; omega
      · have := e2 k hk; have := pA1 k hk; omega
      · have := e4 k hk; have := pN1 k hk; have := hpN k hk; omega
    have hk : qB = some z ∨ qN = some z ∨ pB = some z ∨ pN = some z := by
      rcases hx with rfl | rfl | rfl | rfl
      all_goals first | exact .inl e | exact .inr (.inl e) | exact .inr (.inr (.inl e)) | exact .inr (.inr (.inr e))
    have := key z hk
    omega
end
end Go.Proofs.Ytbpcgfplokkfpaa
