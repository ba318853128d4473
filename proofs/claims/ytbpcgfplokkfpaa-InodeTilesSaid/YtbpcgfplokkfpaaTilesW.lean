/- InodeTiles, walked. -/
import Derived.Test.YtbpcgfplokkfpaaGrown
namespace Go.Proofs.Ytbpcgfplokkfpaa
open Go.RowKit
set_option linter.unusedVariables false
set_option linter.unusedSimpArgs false

set_option maxRecDepth 100000 in
set_option maxHeartbeats 2000000 in
theorem inodeTiles_walk (w : World) (v : Value) (zs : List Int) (rd : RdS rI w (fun k => k < w.heap.size) v zs) (c : Int) (hc : -9223372036854775808 ≤ c ∧ c ≤ 9223372036854775807) :
    Calls Try.prog 3 #[v, .int .i64 c] w fun e w' => e = .returned (.bool true) ∧ Below w.heap.size w w' := by
  obtain ⟨hr, hz, -⟩ := rdS_ints rd
  clear rd
  go_enter Try.func3, Try.ntmps3
  go_wp2_with (first | (go_at_call 16; go_must (refine (awake6_any _).mono ?_; rintro e w' ⟨rfl, hb'⟩; have hx' := Ext.of hb'; clear hb')) | (go_at_call 17; go_must (refine Calls.mono (grown_any _ _ zs ?_ hz _ hc) ?_; (first | (with_reducible assumption) | (apply RdI.ext; (with_reducible assumption); (· repeat (first | (with_reducible assumption) | exact Ext.refl _ | refine Ext.alloc ?_ _ | refine Ext.drew ?_ | refine Ext.drewN ?_ _ | (apply Ext.snart; (with_reducible assumption)))))); rintro e w' ⟨g, q, s, L, lv, rfl, HN, HO, hs24, HI, hg', hq', hap', hb'⟩; have hx' := Ext.of hb'; clear hb')))
  have HQ := hid hq'
  have HAP := hid hap'
  have HII := hid HI
  have hs1 := HO.lo
  have hs2 := HO.hi
  have hl64 := HO.len64
  have hln := HO.len
  have HLN := hid hln
  obtain ⟨al, cl, rfl, -⟩ := HI.rd.slice
  clear hq' hap' HI hln
  have hx0 : Ext w w' := by (· repeat (first | (with_reducible assumption) | exact Ext.refl _ | refine Ext.alloc ?_ _ | refine Ext.drew ?_ | refine Ext.drewN ?_ _ | (apply Ext.snart; (with_reducible assumption))))
  have HX0 := hid hx0
  obtain ⟨wo, rfl⟩ : ∃ wo : World, wo = w' := ⟨_, rfl⟩
  clear hx0
  go_loopw [9] (fun u9 wr => ∃ n : Nat, u9 = .int .i64 n ∧ (n : Int) ≤ s ∧ Ext wo wr) (fun n _ => s.toNat - (intOf n).toNat)
  case atStart => exact ⟨0, rfl, by omega, Ext.refl _⟩
  case round =>
    obtain ⟨n, rfl, hn, hxr⟩ := hrel
    by_cases hlt : (n : Int) < s
    · have hnl : n / 512 < L.length := by have := HLN.out; unfold nb at this; omega
      obtain ⟨gl, rfl, hgl, d0⟩ := OwnI.cellAt (HII.out.ext hxr) (n / 512) hnl
      have hLb : L[((n : Int) / 512).toNat]? = some L[n / 512] := by
        rw [show ((n : Int) / 512).toNat = n / 512 from by omega]
        exact List.getElem?_eq_getElem hnl
      generalize L[n / 512] = b at d0 hLb
      have HLB := hid hLb
      clear hLb
      have i1 : (n : Int) / 512 < (L.length : Int) := by omega
      have i2 : (0 : Int) ≤ (n : Int) / 512 := by omega
      have e1 : ((n : Int) / 512).toNat = n / 512 := by omega
      have HN' := HN.ext hxr
      clear HN
      have HN := HN'
      clear HN'
      go_wp2_with (first | (go_at_call 18; go_must (refine Calls.mono (nodeSize_any _ _ _ _ _ (NodeAt.ext HN ?_)) ?_; (· repeat (first | (with_reducible assumption) | exact Ext.refl _ | refine Ext.alloc ?_ _ | refine Ext.drew ?_ | refine Ext.drewN ?_ _ | (apply Ext.snart; (with_reducible assumption)))); rintro e w' ⟨rfl, rfl⟩)) | (go_at_call 19; go_must (refine Calls.mono (nodeAt_any _ _ _ _ (n : Int) b _ (NodeAt.ext HN ?_) HO ?_ ?_ HLB.out) ?_; (· repeat (first | (with_reducible assumption) | exact Ext.refl _ | refine Ext.alloc ?_ _ | refine Ext.drew ?_ | refine Ext.drewN ?_ _ | (apply Ext.snart; (with_reducible assumption)))); omega; omega; rintro e w' ⟨rfl, hb'⟩; have hx' := Ext.of hb'; clear hb'; have d0 := Ext.cellS hx' d0)))
      go_roundw
      case rel => exact ⟨n + 1, by go_num, by omega, by (· repeat (first | (with_reducible assumption) | exact Ext.refl _ | refine Ext.alloc ?_ _ | refine Ext.drew ?_ | refine Ext.drewN ?_ _ | (apply Ext.snart; (with_reducible assumption))))⟩
      case measure => simp [intOf]; omega
    · obtain rfl : s = (n : Int) := by omega
      have HN' := HN.ext hxr
      clear HN
      have HN := HN'
      clear HN'
      go_wp2_with (first | (go_at_call 18; go_must (refine Calls.mono (nodeSize_any _ _ _ _ _ (NodeAt.ext HN ?_)) ?_; (· repeat (first | (with_reducible assumption) | exact Ext.refl _ | refine Ext.alloc ?_ _ | refine Ext.drew ?_ | refine Ext.drewN ?_ _ | (apply Ext.snart; (with_reducible assumption)))); rintro e w' ⟨rfl, rfl⟩)) | (go_at_call 19; go_must (refine Calls.mono (nodeAt_bad _ _ _ _ (n : Int) _ (NodeAt.ext HN ?_) ⟨?_, ?_⟩ ⟨?_, ?_⟩ ?_) ?_; (· repeat (first | (with_reducible assumption) | exact Ext.refl _ | refine Ext.alloc ?_ _ | refine Ext.drew ?_ | refine Ext.drewN ?_ _ | (apply Ext.snart; (with_reducible assumption)))); omega; omega; omega; omega; omega; rintro e w' ⟨rfl, hb'⟩; have hx' := Ext.of hb'; clear hb')) | (go_at_call 20; go_must (refine Calls.mono (nodeBlocks_any _ _ _ _ _ (NodeAt.ext HN ?_) HO) ?_; (· repeat (first | (with_reducible assumption) | exact Ext.refl _ | refine Ext.alloc ?_ _ | refine Ext.drew ?_ | refine Ext.drewN ?_ _ | (apply Ext.snart; (with_reducible assumption)))); rw [← HLN.out]; rintro e w' ⟨rfl, rfl⟩)))
      go_ret
      exact ⟨rfl, by show Ext _ _; exact HX0.out.trans (by (· repeat (first | (with_reducible assumption) | exact Ext.refl _ | refine Ext.alloc ?_ _ | refine Ext.drew ?_ | refine Ext.drewN ?_ _ | (apply Ext.snart; (with_reducible assumption)))))⟩
end Go.Proofs.Ytbpcgfplokkfpaa
