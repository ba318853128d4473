/- CodecSums, walked. -/
import Derived.Test.YthmpikbbkoblfaaHelp
import Derived.BigRegion
namespace Go.Proofs.Ythmpikbbkoblfaa
open Go.RowKit
set_option linter.unusedVariables false
set_option linter.unusedSimpArgs false

def flipB (x : UInt8) (r : Nat) : UInt8 := UInt8.ofNat (x.toNat ^^^ (2 ^ r % 256))
theorem flipB_all : ∀ (x : Fin 256) (r : Fin 8), bits BinOp.xor IntKind.u8 ((x.val : Nat) : Int) (2 ^ r.val % 256) = (((flipB (UInt8.ofNat x.val) r.val).toNat : Nat) : Int) ∧ flipB (UInt8.ofNat x.val) r.val ≠ UInt8.ofNat x.val := by decide +kernel
theorem flipB_ok (x : UInt8) (r : Nat) (hr : r < 8) : bits BinOp.xor IntKind.u8 ((x.toNat : Nat) : Int) (2 ^ r % 256) = (((flipB x r).toNat : Nat) : Int) ∧ flipB x r ≠ x := by
  have := flipB_all ⟨x.toNat, x.toNat_lt⟩ ⟨r, hr⟩
  simpa using this

set_option maxRecDepth 100000 in
set_option maxHeartbeats 400000 in
theorem codecSums_walk (w : World) (v : Value) (l : List UInt8) (hv : RdB w v l) (sz : l.length ≤ 140737488351232) (c : Int) (hc : -9223372036854775808 ≤ c ∧ c ≤ 9223372036854775807) :
    Calls Try.prog 3 #[v, .int .i64 c] w fun e w' => e = .returned (.bool true) ∧ Below w.heap.size w w' := by
  have HV := hid hv
  obtain ⟨a, capb, rfl, h1, h2, h3, h4⟩ := id hv
  clear h2 h3 h4 hv
  by_cases h0 : 0 < l.length
  · have hk := pickF_lt c (8 * l.length) (by omega)
    have HK := hid (rfl : pickF c (8 * l.length) = pickF c (8 * l.length))
    generalize hkk : pickF c (8 * l.length) = k at hk
    have e8 : (8 * (l.length : Int)).toNat = 8 * l.length := by omega
    go_enter Try.func3, Try.ntmps3
    go_wp2_with (first | (go_at_call 15; refine (awake_any _).mono ?_; rintro e w1 ⟨rfl, hb1⟩; have HV1 := hid (HV.out.below hb1)) | (go_at_call 16; go_must (refine (lent_any _ _ l HV1.out (by omega)).mono ?_; rintro e w2 ⟨g, cap, rfl, hg, HO2, hb2⟩; have HV2 := hid (HV1.out.below hb2); have HR2 := hid ((rdB_own HO2).head [77, 77, 77] rfl); have HH2 := hid HO2; clear HO2)) | (go_at_call 17; refine (Sum_any _ _ l HR2.out).mono ?_; rintro e w3 ⟨rfl, hb3⟩; have HV3 := hid (HV2.out.below hb3); have HO3 : Hid (OwnB _ _ _ _) := hid (own_belowS HH2.out hb3)) | (go_at_call 18; go_must (refine (held_any _ g cap l _ (rdB_own HO3.out) HV3.out (by omega)).mono ?_; rintro e w4 ⟨rfl, rfl⟩)) | (go_at_call 19; go_must (refine (Pick_any _ c (8 * (l.length : Int)) hc (by omega) (by omega)).mono ?_; rw [e8, hkk]; rintro e w4 ⟨rfl, rfl⟩)))
    obtain ⟨q, r, hq, hr, hqr⟩ : ∃ q r : Nat, q < l.length ∧ r < 8 ∧ k = 8 * q + r := ⟨k / 8, k % 8, by omega, by omega, by omega⟩
    have hj : q < (l ++ [77, 77, 77]).length := by simp; omega
    have hcell := HO3.out.cellAt q hj
    have hfr := HO3.out.frozenAt (by simp) q
    have q1 : (k : Int).tdiv 8 = (q : Int) := by rw [Int.tdiv_eq_ediv_of_nonneg (by omega)]; omega
    have q2 : (k : Int).tmod 8 = (r : Int) := by rw [Int.tmod_eq_emod_of_nonneg (by omega)]; omega
    have q3 : (k : Int) / 8 = (q : Int) := by omega
    have q4 : (k : Int) % 8 = (r : Int) := by omega
    have j2 : (q : Int) < (l.length : Int) := by omega
    have j3 : (0 : Int) ≤ (q : Int) := by omega
    have j4 : (0 : Int) ≤ (r : Int) := by omega
    have j5 : (r : Int) < 8 := by omega
    have iw1 : IntKind.i64.wrap (q : Int) = q := by rw [IntKind.wrap_i64]; omega
    have iw2 : IntKind.i64.wrap (r : Int) = r := by rw [IntKind.wrap_i64]; omega
    generalize hx : (l ++ [77, 77, 77])[q] = x at hcell
    have HX := hid hx
    have HQ := hid hqr
    clear hx hqr q3 q4
    have HX' := HX.out
    rw [List.getElem_append_left hq] at HX'
    obtain ⟨f1, f2⟩ := flipB_ok x r hr
    go_region
    have HS := hid (OwnB.set HO3.out (by simp) q (flipB x r))
    rw [List.set_append_left _ _ hq] at HS
    have HR5 := hid ((rdB_own HS.out).head [77, 77, 77] (by simp)).drew
    have HV5 := hid ((HV3.out.setCell ⟨g, q, none⟩ (bv (flipB x r)) (fun j hj e => by have := Rd.block_lt HV1.out h0 j hj; simp at e; omega)).drew)
    have hne : ¬ (((sumF (l.set q (flipB x r)) : Nat) : Int) = ((sumF l : Nat) : Int)) := by
      have := sumF_set l q (flipB x r) hq (by rw [HX']; exact f2)
      omega
    have hs1 := hb1.size
    have hs2 := hb2.size
    have HB := hid (((hb1.trans (hb2.mono hs1)).trans (hb3.mono (by omega))).setCell (p := ⟨g, q, none⟩) (by simp; omega) (bv (flipB x r))).drew
    rw [List.length_set] at HR5
    clear f1 f2 hcell hfr
    unfold bv at HR5 HV5 HB
    generalize (w3.setCell ⟨g, q, none⟩ (.int .u8 (((flipB x r).toNat : Nat) : Int))).drew = w5 at *
    have HN := hid hne
    go_wp2_with (first | (go_at_call 17; go_must (refine (Sum_any _ _ (l.set q (flipB x r)) HR5.out).mono ?_; rintro e w6 ⟨rfl, hb6⟩; have HV6 := hid (HV5.out.below hb6))) | (go_at_call 20; go_must (refine (RSum_any _ _ l HV6.out).mono ?_; rintro e w7 ⟨rfl, rfl⟩)))
    go_ret
    exact ⟨rfl, HB.out.trans (hb6.mono HB.out.size)⟩
  · have h0' : ¬ ((0 : Int) < (l.length : Int)) := by omega
    go_enter Try.func3, Try.ntmps3
    go_wp2_with (first | (go_at_call 15; refine (awake_any _).mono ?_; rintro e w1 ⟨rfl, hb1⟩; have HV1 := hid (HV.out.below hb1)) | (go_at_call 16; go_must (refine (lent_any _ _ l HV1.out (by omega)).mono ?_; rintro e w2 ⟨g, cap, rfl, hg, HO2, hb2⟩; have HV2 := hid (HV1.out.below hb2); have HR2 := hid ((rdB_own HO2).head [77, 77, 77] rfl); have HH2 := hid HO2; clear HO2)) | (go_at_call 17; refine (Sum_any _ _ l HR2.out).mono ?_; rintro e w3 ⟨rfl, hb3⟩; have HV3 := hid (HV2.out.below hb3); have HO3 : Hid (OwnB _ _ _ _) := hid (own_belowS HH2.out hb3)) | (go_at_call 18; go_must (refine (held_any _ g cap l _ (rdB_own HO3.out) HV3.out (by omega)).mono ?_; rintro e w4 ⟨rfl, rfl⟩)) | (go_at_call 20; go_must (refine (RSum_any _ _ l HV3.out).mono ?_; rintro e w7 ⟨rfl, rfl⟩)))
    go_ret
    have hs1 := hb1.size
    have hs2 := hb2.size
    exact ⟨rfl, (hb1.trans (hb2.mono hs1)).trans (hb3.mono (by omega))⟩
end Go.Proofs.Ythmpikbbkoblfaa
