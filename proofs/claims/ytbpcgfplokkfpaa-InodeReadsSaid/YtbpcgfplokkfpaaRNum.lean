/- The document's Cursor in memory; its Number, walked. -/
import Derived.Test.YtbpcgfplokkfpaaRefGU
import Derived.Test.YtbpcgfplokkfpaaRdr
namespace Go.Proofs.Ytbpcgfplokkfpaa
open Go.RowKit
set_option linter.unusedVariables false
set_option linter.unusedSimpArgs false

/-- one number off what is left -/
def numS (most : Nat) (st : List UInt8 × Bool) : Nat × (List UInt8 × Bool) :=
  if (uintF st.1).2.2 ≠ 0 ∨ most < (uintF st.1).1 then (0, (st.1, true)) else ((uintF st.1).1, (st.1.drop (uintF st.1).2.1, st.2))
theorem set_blk {w : World} {g o : Nat} {c : Array Value} {t : TypeId} {f : Nat × Nat} (h : w.heap[g]? = some (.cells c t f)) (u : Value) : (w.setCell ⟨g, o, none⟩ u).heap[g]? = some (.cells (c.setIfInBounds o u) t f) := by
  simp [World.setCell, Array.getElem?_modify, h]
theorem frozen_blk {w : World} {g : Nat} {c : Array Value} {t : TypeId} (h : w.heap[g]? = some (.cells c t (0, 0))) (o : Nat) : w.frozen? ⟨g, o, none⟩ = false := by simp [World.frozen?, h]
theorem RdB.kept {S : Nat → Prop} {w w' : World} {v : Value} {l : List UInt8} (h : RdB w v l) (hk : Keep S w w') (hS : 0 < l.length → ∀ k, v.ownBlock = some k → S k) : RdB w' v l :=
  Rd.carry0 h hk.size fun hn k hb hl => hk.block k (hS hn k hb) hl

/-- block g is a Cursor at what is left -/
def CurR (w : World) (g B : Nat) (st : List UInt8 × Bool) : Prop :=
  ∃ v, w.heap[g]? = some (.cells #[v, .bool st.2] 110 (0, 0)) ∧ RdB w v st.1 ∧ (0 < st.1.length → ∀ k, v.ownBlock = some k → k < B) ∧ B ≤ g
theorem CurR.keep {S : Nat → Prop} {w w' : World} {g B : Nat} {st : List UInt8 × Bool} (h : CurR w g B st) (hk : Keep S w w') (hg : S g) (hS : ∀ k, k < B → S k) : CurR w' g B st := by
  obtain ⟨v, h1, h2, h3, h4⟩ := h
  have hl : g < w.heap.size := (Array.getElem?_eq_some_iff.1 h1).1
  exact ⟨v, by rw [hk.block g hg hl]; exact h1, h2.kept hk (fun hn k hb => hS k (h3 hn k hb)), h3, h4⟩
theorem CurR.ext {w w' : World} {g B : Nat} {st : List UInt8 × Bool} (h : CurR w g B st) (hx : Ext w w') : CurR w' g B st := h.keep (hx.keep (fun _ => True)) trivial fun _ _ => trivial
theorem CurR.lt {w : World} {g B : Nat} {st : List UInt8 × Bool} (h : CurR w g B st) : g < w.heap.size := by
  obtain ⟨v, h1, _⟩ := h
  exact (Array.getElem?_eq_some_iff.1 h1).1
theorem CurR.bad {w : World} {g B : Nat} {st : List UInt8 × Bool} (h : CurR w g B st) : w.cell? ⟨g, 1, none⟩ = some (.bool st.2) := by
  obtain ⟨v, h1, _⟩ := h
  rw [cell_of_row _ _ _ _ _ _ h1]; rfl
theorem CurR.head {w : World} {g B : Nat} {st : List UInt8 × Bool} (h : CurR w g B st) : ∃ a cap, w.cell? ⟨g, 0, none⟩ = some (.slice a st.1.length cap) ∧ cap ≤ 9223372036854775807 := by
  obtain ⟨v, h1, h2, -⟩ := h
  obtain ⟨a, cap, rfl, _, hc, _⟩ := h2
  exact ⟨a, cap, by rw [cell_of_row _ _ _ _ _ _ h1]; rfl, by unfold maxLen at hc; omega⟩

def NumEnd (w : World) (g B most : Nat) (st : List UInt8 × Bool) (e : Ending) (w' : World) : Prop :=
  e = .returned (.int .i64 ((numS most st).1 : Nat)) ∧ CurR w' g B (numS most st).2 ∧ Keep (fun k => k ≠ g) w w'

set_option maxRecDepth 100000 in
set_option maxHeartbeats 1000000 in
theorem RNumber_any (w : World) (g B most : Nat) (st : List UInt8 × Bool) (h : CurR w g B st) (hmost : most ≤ 9223372036854775807) :
    Calls Try.prog 76 #[.pointer (some ⟨g, 0, none⟩), .int .u64 most] w (NumEnd w g B most st) := by
  obtain ⟨l, bad⟩ := st
  have H := hid h
  obtain ⟨v, h1, h2, h3, hBg⟩ := h
  dsimp only at h1 h2 h3
  obtain ⟨a, cap, rfl, hc1, hc2, -, -⟩ := id h2
  have c0 : w.cell? ⟨g, 0, none⟩ = some (.slice a l.length cap) := by rw [cell_of_row _ _ _ _ _ _ h1]; rfl
  have c1 : w.cell? ⟨g, 1, none⟩ = some (.bool bad) := by rw [cell_of_row _ _ _ _ _ _ h1]; rfl
  have hcI : cap ≤ 9223372036854775807 := by unfold maxLen at hc2; omega
  have HB := hid h1
  have HR := hid h2
  have HV := hid h3
  have hf := uintF_facts l
  have HNS := hid (show numS most (l, bad) = if (uintF l).2.2 ≠ 0 ∨ most < (uintF l).1 then (0, (l, true)) else ((uintF l).1, (l.drop (uintF l).2.1, bad)) from rfl)
  have HDR := hid (fun (k : Nat) (hk : k ≤ l.length) => h2.drop k hk)
  obtain ⟨U, HU⟩ : ∃ U, Hid (uintF l = U) := ⟨_, hid rfl⟩
  rw [HU.out] at hf HNS
  obtain ⟨n, k, e⟩ := U
  dsimp only at hf HNS
  have hgw : g < w.heap.size := (Array.getElem?_eq_some_iff.1 h1).1
  clear h1 h2 h3 hc2
  by_cases he : e ≠ 0 ∨ most < n
  · have HN2 := hid (HNS.out.trans (if_pos he))
    have hex : (¬ e = 0 ∧ ((e : Int) == 0) = false) ∨ (e = 0 ∧ most < n) := by
      by_cases h0 : e = 0
      · right; omega
      · left; exact ⟨h0, by rw [beq_eq_false_iff_ne]; omega⟩
    clear he
    rcases hex with ⟨he, he0⟩ | ⟨rfl, hb⟩
    all_goals
      go_enter Try.func76, Try.ntmps76
      go_wp2_with (go_at_call 78; go_must (refine (RUint_any w _ l HR.out).mono ?_; rw [HU.out]; rintro e w1 ⟨rfl, hb1⟩; have hx1 := Ext.of hb1; have hbk := (hb1.block g hgw).trans HB.out; have f1 := frozen_blk hbk 1; have d1 := hx1.cellS c1; have HBK := hid hbk; clear hb1 hbk))
      go_ret
      refine ⟨by rw [HN2.out]; rfl, ?_, (hx1.keep _).trans ((Keep.refl _ w1).setCell (by simp) _)⟩
      rw [HN2.out]
      exact ⟨_, set_blk (o := 1) HBK.out (.bool true), (HR.out.ext hx1).kept ((Keep.refl (fun x => x ≠ g) w1).setCell (by simp) _) (fun hn b hb => by have := HV.out hn b hb; omega), HV.out, hBg⟩
  · have he2 : e = 0 ∧ n ≤ most := by omega
    obtain ⟨rfl, hn⟩ := he2
    have hkl : k ≤ l.length := by omega
    have HN2 := hid (HNS.out.trans (if_neg he))
    have HD := hid (HDR.out k hkl)
    clear he HDR
    have hn64 : n ≤ 9223372036854775807 := by omega
    have hnm : ¬ most < n := by omega
    go_enter Try.func76, Try.ntmps76
    go_wp2_with (first | ((with_reducible refine at_slice ?_); go_must (refine wl_slice_l rfl rfl Try.underlying50 sizeU8 rfl rfl k rfl ?_ ?_; omega)) | (go_at_call 78; go_must (refine (RUint_any w _ l HR.out).mono ?_; rw [HU.out]; rintro e w1 ⟨rfl, hb1⟩; have hx1 := Ext.of hb1; have hbk := (hb1.block g hgw).trans HB.out; have f1 := frozen_blk hbk 0; have d0 := hx1.cellS c0; have HBK := hid hbk; clear hb1 hbk)))
    go_ret
    refine ⟨by rw [HN2.out]; rfl, ?_, (hx1.keep _).trans ((Keep.refl _ w1).setCell (by simp) _)⟩
    rw [HN2.out]
    refine ⟨_, set_blk (o := 0) HBK.out _, (HD.out.ext hx1).kept ((Keep.refl (fun x => x ≠ g) w1).setCell (by simp) _) ?_, ?_, hBg⟩
    · intro hl b hb
      have := HV.out (by simp only [List.length_drop] at hl; omega) b (by rw [← hb]; exact cutAt_block.symm)
      omega
    · intro hl b hb
      exact HV.out (by simp only [List.length_drop] at hl; omega) b (by rw [← hb]; exact cutAt_block.symm)
end Go.Proofs.Ytbpcgfplokkfpaa
