/- The document's Cursor in memory: Text, Number, Byte, walked. -/
import Derived.Test.YthobhkmphjnlaaaRefGT
import Derived.Test.YthobhkmphjnlaaaCur
import Derived.Test.YthobhkmphjnlaaaBatS
namespace Go.Proofs.Ythobhkmphjnlaaa
open Go.RowKit
set_option linter.unusedVariables false
set_option linter.unusedSimpArgs false

abbrev CurQ (w : World) (g B : Nat) (st : St) : Prop := CurT 125 w g B st

set_option maxRecDepth 100000 in
set_option maxHeartbeats 1000000 in
theorem CNumber_any (w : World) (g B : Nat) (st : St) (most : Nat) (h : CurQ w g B st) (hmost : most ≤ 9223372036854775807) :
    Calls Try.prog 68 #[.pointer (some ⟨g, 0, none⟩), .int .u64 most] w fun e w' => e = .returned (.int .i64 ((sNum most st).1 : Nat)) ∧ CurQ w' g B (sNum most st).2 ∧ Keep (fun k => k ≠ g) w w' := by
  obtain ⟨l, bad⟩ := st
  have H := hid h
  obtain ⟨v, h1, h2, h3, hBg⟩ := h
  dsimp only at h1 h2 h3
  obtain ⟨a, cap, rfl, hc1, hc2, -, -⟩ := id h2
  have c0 : w.cell? ⟨g, 0, none⟩ = some (.slice a l.length cap) := by rw [cell_of_row _ _ _ _ _ _ h1]; rfl
  have c1 : w.cell? ⟨g, 1, none⟩ = some (.bool bad) := by rw [cell_of_row _ _ _ _ _ _ h1]; rfl
  have hcI : cap ≤ 9223372036854775807 := by unfold maxLen at hc2; omega
  have HB := hid h1
  have HR := hid h2
  have HV := hid h3
  have hf := uintF_facts l
  have HNS := hid (show sNum most (l, bad) = if (uintF l).2.2 ≠ 0 ∨ most < (uintF l).1 then (0, (l, true)) else ((uintF l).1, (l.drop (uintF l).2.1, bad)) from rfl)
  have HDR := hid (fun (k : Nat) (hk : k ≤ l.length) => h2.drop k hk)
  obtain ⟨U, HU⟩ : ∃ U, Hid (uintF l = U) := ⟨_, hid rfl⟩
  rw [HU.out] at hf HNS
  obtain ⟨n, k, e⟩ := U
  dsimp only at hf HNS
  have hgw : g < w.heap.size := (Array.getElem?_eq_some_iff.1 h1).1
  clear h1 h2 h3 hc2
  by_cases he : e ≠ 0 ∨ most < n
  · have HN2 := hid (HNS.out.trans (if_pos he))
    have hex : (¬ e = 0 ∧ ((e : Int) == 0) = false) ∨ (e = 0 ∧ most < n) := by
      by_cases h0 : e = 0
      · right; omega
      · left; exact ⟨h0, by rw [beq_eq_false_iff_ne]; omega⟩
    clear he
    rcases hex with ⟨he, he0⟩ | ⟨rfl, hb⟩
    all_goals
      go_enter Try.func68, Try.ntmps68
      go_wp2_with (go_at_call 92; go_must (refine (RUint_any w _ l HR.out).mono ?_; rw [HU.out]; rintro e w1 ⟨rfl, hb1⟩; have hx1 := Ext.of hb1; have hbk := (hb1.block g hgw).trans HB.out; have f1 := frozen_blk hbk 1; have d1 := hx1.cellS c1; have HBK := hid hbk; clear hb1 hbk))
      go_ret
      refine ⟨by rw [HN2.out]; rfl, ?_, (hx1.keep _).trans ((Keep.refl _ w1).setCell (by simp) _)⟩
      rw [HN2.out]
      exact ⟨_, set_blk (o := 1) HBK.out (.bool true), (HR.out.ext hx1).kept ((Keep.refl (fun x => x ≠ g) w1).setCell (by simp) _) (fun hn b hb => by have := HV.out hn b hb; omega), HV.out, hBg⟩
  · have he2 : e = 0 ∧ n ≤ most := by omega
    obtain ⟨rfl, hn⟩ := he2
    have hkl : k ≤ l.length := by omega
    have HN2 := hid (HNS.out.trans (if_neg he))
    have HD := hid (HDR.out k hkl)
    clear he HDR
    have hn64 : n ≤ 9223372036854775807 := by omega
    have hnm : ¬ most < n := by omega
    go_enter Try.func68, Try.ntmps68
    go_wp2_with (first | ((with_reducible refine at_slice ?_); go_must (refine wl_slice_l rfl rfl Try.underlying54 sizeU8 rfl rfl k rfl ?_ ?_; omega)) | (go_at_call 92; go_must (refine (RUint_any w _ l HR.out).mono ?_; rw [HU.out]; rintro e w1 ⟨rfl, hb1⟩; have hx1 := Ext.of hb1; have hbk := (hb1.block g hgw).trans HB.out; have f1 := frozen_blk hbk 0; have d0 := hx1.cellS c0; have HBK := hid hbk; clear hb1 hbk)))
    go_ret
    refine ⟨by rw [HN2.out]; rfl, ?_, (hx1.keep _).trans ((Keep.refl _ w1).setCell (by simp) _)⟩
    rw [HN2.out]
    refine ⟨_, set_blk (o := 0) HBK.out _, (HD.out.ext hx1).kept ((Keep.refl (fun x => x ≠ g) w1).setCell (by simp) _) ?_, ?_, hBg⟩
    · intro hl b hb
      have := HV.out (by simp only [List.length_drop] at hl; omega) b (by rw [← hb]; exact cutAt_block.symm)
      omega
    · intro hl b hb
      exact HV.out (by simp only [List.length_drop] at hl; omega) b (by rw [← hb]; exact cutAt_block.symm)

set_option maxRecDepth 100000 in
set_option maxHeartbeats 1000000 in
theorem CText_any (w : World) (g B : Nat) (st : St) (h : CurQ w g B st) :
    Calls Try.prog 67 #[.pointer (some ⟨g, 0, none⟩)] w fun e w' => e = .returned (.string (sText st).1) ∧ CurQ w' g B (sText st).2 ∧ Keep (fun k => k ≠ g) w w' := by
  obtain ⟨l, bad⟩ := st
  have H := hid h
  obtain ⟨v, h1, h2, h3, hBg⟩ := h
  dsimp only at h1 h2 h3
  obtain ⟨a, cap, rfl, hc1, hc2, -, -⟩ := id h2
  have c0 : w.cell? ⟨g, 0, none⟩ = some (.slice a l.length cap) := by rw [cell_of_row _ _ _ _ _ _ h1]; rfl
  have c1 : w.cell? ⟨g, 1, none⟩ = some (.bool bad) := by rw [cell_of_row _ _ _ _ _ _ h1]; rfl
  have hcI : cap ≤ 9223372036854775807 := by unfold maxLen at hc2; omega
  have HB := hid h1
  have HR := hid h2
  have HV := hid h3
  have hf := textF_facts0 l 2000
  have HNS := hid (show sText (l, bad) = if (textF l 2000).2.2 ≠ 0 then (⟨#[]⟩, (l, true)) else (⟨(textF l 2000).1.toArray⟩, (l.drop (textF l 2000).2.1, bad)) from rfl)
  have HDR := hid (fun (k : Nat) (hk : k ≤ l.length) => h2.drop k hk)
  obtain ⟨U, HU⟩ : ∃ U, Hid (textF l 2000 = U) := ⟨_, hid rfl⟩
  rw [HU.out] at hf HNS
  obtain ⟨x, k, e⟩ := U
  dsimp only at hf HNS
  have hgw : g < w.heap.size := (Array.getElem?_eq_some_iff.1 h1).1
  clear h1 h2 h3 hc2
  by_cases he : e = 0
  · subst he
    have hkl : k ≤ l.length := by omega
    have HN2 := hid (HNS.out.trans (if_neg (by simp)))
    have HD := hid (HDR.out k hkl)
    clear HDR
    go_enter Try.func67, Try.ntmps67
    go_wp2_with (first | ((with_reducible refine at_slice ?_); go_must (refine wl_slice_l rfl rfl Try.underlying54 sizeU8 rfl rfl k rfl ?_ ?_; omega)) | (go_at_call 91; go_must (refine (RText_any w _ l 2000 (by omega) (by omega) HR.out).mono ?_; rw [HU.out]; rintro e w1 ⟨rfl, hb1⟩; have hx1 := Ext.of hb1; have hbk := (hb1.block g hgw).trans HB.out; have f1 := frozen_blk hbk 0; have d0 := hx1.cellS c0; have HBK := hid hbk; clear hb1 hbk)))
    go_ret
    refine ⟨by rw [HN2.out]; rfl, ?_, (hx1.keep _).trans ((Keep.refl _ w1).setCell (by simp) _)⟩
    rw [HN2.out]
    refine ⟨_, set_blk (o := 0) HBK.out _, (HD.out.ext hx1).kept ((Keep.refl (fun x => x ≠ g) w1).setCell (by simp) _) ?_, ?_, hBg⟩
    · intro hl b hb
      have := HV.out (by simp only [List.length_drop] at hl; omega) b (by rw [← hb]; exact cutAt_block.symm)
      omega
    · intro hl b hb
      exact HV.out (by simp only [List.length_drop] at hl; omega) b (by rw [← hb]; exact cutAt_block.symm)
  · have HN2 := hid (HNS.out.trans (if_pos he))
    have he0 : ((e : Int) == 0) = false := by rw [beq_eq_false_iff_ne]; omega
    go_enter Try.func67, Try.ntmps67
    go_wp2_with (go_at_call 91; go_must (refine (RText_any w _ l 2000 (by omega) (by omega) HR.out).mono ?_; rw [HU.out]; rintro e w1 ⟨rfl, hb1⟩; have hx1 := Ext.of hb1; have hbk := (hb1.block g hgw).trans HB.out; have f1 := frozen_blk hbk 1; have d1 := hx1.cellS c1; have HBK := hid hbk; clear hb1 hbk))
    go_ret
    refine ⟨by rw [HN2.out]; rfl, ?_, (hx1.keep _).trans ((Keep.refl _ w1).setCell (by simp) _)⟩
    rw [HN2.out]
    exact ⟨_, set_blk (o := 1) HBK.out (.bool true), (HR.out.ext hx1).kept ((Keep.refl (fun x => x ≠ g) w1).setCell (by simp) _) (fun hn b hb => by have := HV.out hn b hb; omega), HV.out, hBg⟩

set_option maxRecDepth 100000 in
set_option maxHeartbeats 1000000 in
theorem CByte_any (w : World) (g B : Nat) (st : St) (h : CurQ w g B st) :
    Calls Try.prog 69 #[.pointer (some ⟨g, 0, none⟩)] w fun e w' => e = .returned (.int .u8 ((sByte st).1.toNat : Nat)) ∧ CurQ w' g B (sByte st).2 ∧ Keep (fun k => k ≠ g) w w' := by
  obtain ⟨l, bad⟩ := st
  have H := hid h
  obtain ⟨v, h1, h2, h3, hBg⟩ := h
  dsimp only at h1 h2 h3
  obtain ⟨a, cap, rfl, hc1, hc2, -, hc4⟩ := id h2
  have c0 : w.cell? ⟨g, 0, none⟩ = some (.slice a l.length cap) := by rw [cell_of_row _ _ _ _ _ _ h1]; rfl
  have c1 : w.cell? ⟨g, 1, none⟩ = some (.bool bad) := by rw [cell_of_row _ _ _ _ _ _ h1]; rfl
  have hcI : cap ≤ 9223372036854775807 := by unfold maxLen at hc2; omega
  have HB := hid h1
  have HR := hid h2
  have HV := hid h3
  have f0 := frozen_blk h1 0
  have f1 := frozen_blk h1 1
  have hgw : g < w.heap.size := (Array.getElem?_eq_some_iff.1 h1).1
  cases l with
  | nil =>
    clear h1 h2 h3 hc2 hc4
    go_enter Try.func69, Try.ntmps69
    go_wp2_with fail
    go_ret
    refine ⟨rfl, ?_, (Keep.refl _ w).setCell (by simp) _⟩
    exact ⟨_, set_blk (o := 1) HB.out (.bool true), HR.out.kept ((Keep.refl (fun x => x ≠ g) w).setCell (by simp) _) (fun hn b hb => by have := HV.out hn b hb; omega), HV.out, hBg⟩
  | cons c r =>
    obtain ⟨gb, ob, rfl, hgb, hcell⟩ := hc4 (by simp)
    have cb : w.cell? ⟨gb, ob, none⟩ = some (.int .u8 (c.toNat : Int)) := by
      have := hcell 0 (by simp)
      simpa [bvs, bv] using this
    have HD := hid (h2.drop 1 (by simp))
    clear h1 h2 h3 hc2 hcell
    have hl1 : 1 ≤ (c :: r).length := by simp
    have hlen : ((((c :: r).length : Nat) : Int) == 0) = false := by rw [beq_eq_false_iff_ne]; omega
    generalize hL : (c :: r).length = L at *
    have HL := hid hL
    clear hL
    go_enter Try.func69, Try.ntmps69
    go_wp2_with ((with_reducible refine at_slice ?_); go_must (refine wl_slice_l rfl rfl Try.underlying54 sizeU8 rfl rfl 1 rfl ?_ ?_; omega))
    go_ret
    refine ⟨rfl, ?_, (Keep.refl _ w).setCell (by simp) _⟩
    have hD := HD.out
    refine ⟨_, set_blk (o := 0) HB.out _, hD.kept ((Keep.refl (fun x => x ≠ g) w).setCell (by simp) _) ?_, ?_, hBg⟩
    · intro hl b hb
      have := HV.out (by omega) b (by rw [← hb]; exact cutAt_block.symm)
      omega
    · intro hl b hb
      exact HV.out (by omega) b (by rw [← hb]; exact cutAt_block.symm)
end Go.Proofs.Ythobhkmphjnlaaa
