/- inode's Copy; InodeCopies, walked. -/
import Derived.Test.YtbpcgfplokkfpaaGrown
import Derived.Deep.RegionHeld3
namespace Go.Proofs.Ytbpcgfplokkfpaa
open Go.RowKit
set_option linter.unusedVariables false
set_option linter.unusedSimpArgs false

set_option maxRecDepth 100000 in
set_option maxHeartbeats 1000000 in
theorem nodeCopy_any (w : World) (g : Nat) (q : Option Nat) (s : Int) (L : List Int) (h : NodeAt w g q s L) (hl : L.length ≤ 1000000) :
    Calls Try.prog 46 #[.pointer (some ⟨g, 0, none⟩)] w fun e w' => ∃ g' q', e = .returned (.pointer (some ⟨g', 0, none⟩)) ∧ NodeAt w' g' q' s L ∧ w.heap.size ≤ g' ∧ (∀ k, q' = some k → w.heap.size ≤ k) ∧ Below w.heap.size w w' := by
  obtain ⟨a, cap, c0, c1, hr, -, -, hn, hc⟩ := h.cells
  have hg := h.lt
  have hwl := whole_len L
  have HN := hid (show whole L = [] → Value.slice a (whole L).length cap = .slice none 0 0 from fun e => by
    obtain ⟨rfl, rfl⟩ := hn ((whole_nil_iff L).1 e)
    rw [e]; rfl)
  have HI := hid (show L = [] → whole L = [] from (whole_nil_iff L).2)
  have HRW := hid hr
  clear hn h hr
  go_enter Try.func46, Try.ntmps46
  go_wp2_with fail
  go_region_held3 (fun w' => w'.cell? ⟨g, 0, none⟩ = some (.int .i64 s) ∧ w'.cell? ⟨g, 1, none⟩ = some (.slice a (whole L).length cap)) (first | go_keep | (go_split_ands; exact ⟨Ext.cellS hx' (by assumption), Ext.cellS hx' (by assumption)⟩) | (go_split_ands; exact ⟨Ext.cellS ((Ext.refl _).alloc _) (by assumption), Ext.cellS ((Ext.refl _).alloc _) (by assumption)⟩)) ((go_at_call 67; go_must (refine (CloneR_any _ _ (whole L) (HRW.out.ext (by (· repeat (first | (with_reducible assumption) | exact Ext.refl _ | refine Ext.alloc ?_ _ | refine Ext.drew ?_ | refine Ext.drewN ?_ _ | (apply Ext.snart; (with_reducible assumption)))))) HN.out (by omega)).mono ?_; rintro e w' ⟨v', rfl, hv1, hv2, hb'⟩; have hx' := Ext.of hb'; obtain ⟨va, vc, rfl, -⟩ := hv1.rd.slice; have HV1 := hid hv1; have HV2 := hid hv2; clear hb' hv1 hv2)))
  all_goals
    go_wp2_with fail
    go_ret
    refine ⟨_, (Value.slice va (whole L).length vc).ownBlock, rfl, ⟨_, heap_alloc_new _ _, (HV1.out.ext ((Ext.refl _).alloc _)).rd, rfl, fun e => ?_, fun k hk => ?_, fun e => HV2.out (HI.out e)⟩, hx'.size, fun k hk => ?_, by show Ext _ _; (· repeat (first | (with_reducible assumption) | exact Ext.refl _ | refine Ext.alloc ?_ _ | refine Ext.drew ?_ | refine Ext.drewN ?_ _ | (apply Ext.snart; (with_reducible assumption))))⟩
    · have := (HV1.out.lt _ e).2; omega
    · have := (HV1.out.lt _ hk).2; simp; omega
    · have := (HV1.out.lt _ hk).1; simpa using this
end Go.Proofs.Ytbpcgfplokkfpaa
