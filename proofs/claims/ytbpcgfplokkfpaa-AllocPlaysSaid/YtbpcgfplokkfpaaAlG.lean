/- Map.Commit, Map.Reset, New, Blocks, walked. -/
import Derived.Test.YtbpcgfplokkfpaaAlF
namespace Go.Proofs.Ytbpcgfplokkfpaa
open Go.RowKit
set_option linter.unusedVariables false
set_option linter.unusedSimpArgs false

def Newer (T : Nat → Prop) (w w' : World) : Nat → Prop := fun k => T k ∨ (w.heap.size ≤ k ∧ k < w'.heap.size)
theorem MapAt.putLast {T : Nat → Prop} {w w1 : World} {g : Nat} {now last xs : List Bool} {v' : Value} (h : MapAt T w g now last) (hx : Ext w w1) (ho : OwnS rBo 4 w1 w.heap.size (fun _ => False) v' xs) (hl : xs.length = now.length) :
    MapAt (Newer T w (w1.setCell ⟨g, 1, none⟩ v')) (w1.setCell ⟨g, 1, none⟩ v') g now xs ∧ Keep (fun k => ¬ T k) w (w1.setCell ⟨g, 1, none⟩ v') := by
  have hg := h.lt
  obtain ⟨vn, vl, h1, h2, h3, h4, h5, h6, h7, h8⟩ := h
  have r1 := (Below.block hx g hg).trans h1
  refine ⟨⟨vn, v', set_blk r1 v', (h2.ext hx).kept ((Keep.refl _ _).setCell (p := ⟨g, 1, none⟩) (fun h => by rcases h with h | h; exact h; exact (h7 g h).1 rfl) _), (ho.low (Nat.zero_le _)).kept ((Keep.refl _ _).setCell (p := ⟨g, 1, none⟩) (fun h => by rcases h with h | h; exact h; (have := (ho.lt g h).1; omega)) _), hl, h5, .inl h6, fun k hk => ⟨(h7 k hk).1, fun e => ?_, .inl (h7 k hk).2.2⟩, fun k hk => ⟨fun e => ?_, .inr ?_⟩⟩, (hx.keep _).setCell (p := ⟨g, 1, none⟩) (fun h => h h6) _⟩
  · have e1 := (ho.lt k e).1
    have e2 := (h2.lt k hk).2
    omega
  · have e1 := (ho.lt k hk).1; omega
  · have e1 := ho.lt k hk; simp only [heap_setCell_sz]; exact e1
theorem MapAt.putNow {T : Nat → Prop} {w w1 : World} {g : Nat} {now last xs : List Bool} {v' : Value} (h : MapAt T w g now last) (hx : Ext w w1) (ho : OwnS rBo 4 w1 w.heap.size (fun _ => False) v' xs) (hl : xs.length = now.length) :
    MapAt (Newer T w (w1.setCell ⟨g, 0, none⟩ v')) (w1.setCell ⟨g, 0, none⟩ v') g xs last ∧ Keep (fun k => ¬ T k) w (w1.setCell ⟨g, 0, none⟩ v') := by
  have hg := h.lt
  obtain ⟨vn, vl, h1, h2, h3, h4, h5, h6, h7, h8⟩ := h
  have r1 := (Below.block hx g hg).trans h1
  refine ⟨⟨v', vl, set_blk r1 v', (ho.low (Nat.zero_le _)).kept ((Keep.refl _ _).setCell (p := ⟨g, 0, none⟩) (fun h => by rcases h with h | h; exact h; (have := (ho.lt g h).1; omega)) _), (h3.ext hx).kept ((Keep.refl _ _).setCell (p := ⟨g, 0, none⟩) (fun h => by rcases h with h | h; exact h; exact (h8 g h).1 rfl) _), by omega, by omega, .inl h6, fun k hk => ⟨fun e => ?_, fun e => ?_, .inr ?_⟩, fun k hk => ⟨(h8 k hk).1, .inl (h8 k hk).2⟩⟩, (hx.keep _).setCell (p := ⟨g, 0, none⟩) (fun h => h h6) _⟩
  · have e1 := (ho.lt k hk).1; omega
  · have e1 := (ho.lt k hk).1
    have e2 := (h3.lt k e).2
    omega
  · have e1 := ho.lt k hk; simp only [heap_setCell_sz]; exact e1

set_option maxRecDepth 100000 in
set_option maxHeartbeats 400000 in
theorem Commit_any (T : Nat → Prop) (w : World) (g : Nat) (now last : List Bool) (h : MapAt T w g now last) :
    Calls Try.prog 27 #[.pointer (some ⟨g, 0, none⟩)] w fun e w' => e = .returned (.tuple #[]) ∧ MapAt (Newer T w w') w' g now now ∧ Keep (fun k => ¬ T k) w w' := by
  have H := hid h
  obtain ⟨vn, vl, h1, h2, h3, h4, h5, -⟩ := h
  have hg := (Array.getElem?_eq_some_iff.1 h1).1
  have c0 : w.cell? ⟨g, 0, none⟩ = some vn := (cell_of_row _ _ 0 _ _ _ h1).trans rfl
  have H2 := hid h2
  have H1 := hid h1
  obtain ⟨na, nc, rfl⟩ := h2.slice
  clear h1 h2 h3 h4
  go_enter Try.func27, Try.ntmps27
  go_wp2_with fail
  refine (CloneB_any w _ _ now H2.out.rdT (by omega)).mono ?_
  rintro e w1 ⟨v', rfl, ho, hx⟩
  obtain ⟨a1, n1, rfl⟩ := ho.slice
  have r1 := (Below.block hx g hg).trans H1.out
  have c1 : w1.cell? ⟨g, 1, none⟩ = some vl := (cell_of_row _ _ 1 _ _ _ r1).trans rfl
  have f1 := frozen_blk r1 1
  have HO := hid ho
  have HX := hid hx
  clear ho hx r1
  go_wp2_with fail
  go_end0
  obtain ⟨q1, q2⟩ := H.out.putLast HX.out HO.out rfl
  exact ⟨rfl, q1, q2⟩

set_option maxRecDepth 100000 in
set_option maxHeartbeats 400000 in
theorem Reset_any (T : Nat → Prop) (w : World) (g : Nat) (now last : List Bool) (h : MapAt T w g now last) :
    Calls Try.prog 30 #[.pointer (some ⟨g, 0, none⟩)] w fun e w' => e = .returned (.tuple #[]) ∧ MapAt (Newer T w w') w' g last last ∧ Keep (fun k => ¬ T k) w w' := by
  have H := hid h
  obtain ⟨vn, vl, h1, h2, h3, h4, h5, -⟩ := h
  have hg := (Array.getElem?_eq_some_iff.1 h1).1
  have c0 : w.cell? ⟨g, 1, none⟩ = some vl := (cell_of_row _ _ 1 _ _ _ h1).trans rfl
  have H3 := hid h3
  have H1 := hid h1
  have H4 := hid h4
  have hl2 : last.length ≤ 512 := by omega
  obtain ⟨na, nc, rfl⟩ := h3.slice
  clear h1 h2 h3 h4
  go_enter Try.func30, Try.ntmps30
  go_wp2_with fail
  refine (CloneB_any w _ _ last H3.out.rdT (by omega)).mono ?_
  rintro e w1 ⟨v', rfl, ho, hx⟩
  obtain ⟨a1, n1, rfl⟩ := ho.slice
  have r1 := (Below.block hx g hg).trans H1.out
  have c1 : w1.cell? ⟨g, 0, none⟩ = some vn := (cell_of_row _ _ 0 _ _ _ r1).trans rfl
  have f1 := frozen_blk r1 0
  have HO := hid ho
  have HX := hid hx
  clear ho hx r1
  go_wp2_with fail
  go_end0
  obtain ⟨q1, q2⟩ := H.out.putNow HX.out HO.out H4.out
  exact ⟨rfl, q1, q2⟩

set_option maxRecDepth 100000 in
set_option maxHeartbeats 400000 in
theorem Blocks_any (T : Nat → Prop) (w : World) (g : Nat) (now last : List Bool) (h : MapAt T w g now last) :
    Calls Try.prog 65 #[.pointer (some ⟨g, 0, none⟩)] w fun e w' => e = .returned (.int .i64 (now.length : Nat)) ∧ w = w' := by
  obtain ⟨vn, vl, h1, h2, h3, h4, h5, -⟩ := h
  have c0 : w.cell? ⟨g, 0, none⟩ = some vn := (cell_of_row _ _ 0 _ _ _ h1).trans rfl
  obtain ⟨na, nc, rfl⟩ := h2.slice
  clear h1 h2 h3 h4
  go_enter Try.func65, Try.ntmps65
  go_wp2_with fail
  go_ret
  exact ⟨rfl, rfl⟩
end Go.Proofs.Ytbpcgfplokkfpaa
