/- CodecScans, walked. -/
import Derived.Test.YthmpikbbkoblfaaScanL
import Derived.Test.YthmpikbbkoblfaaRScan
namespace Go.Proofs.Ythmpikbbkoblfaa
open Go.RowKit
set_option linter.unusedVariables false
set_option linter.unusedSimpArgs false
attribute [local go_sem ↓] Go.wp_at_zero Go.wp_at_succ

set_option maxRecDepth 100000 in
set_option maxHeartbeats 2000000 in
theorem codecScans_walk (w : World) (v : Value) (l : List UInt8) (hv : RdB w v l) (sz : l.length ≤ 1048576) (vf : Value) (fs : List (UInt8 × List UInt8)) (hf : RdF w vf fs) (szf' : fs.length ≤ 1048576 ∧ ∀ i (h : i < fs.length), fs[i].2.length ≤ 1048576) :
    Calls Try.prog 8 #[v, vf] w fun e w' => e = .returned (.bool true) ∧ Below w.heap.size w w' := by
  have szf := szf'.1
  clear szf'
  have HV := hid hv
  have HF := hid hf
  obtain ⟨a, capb, rfl, h1, h2, h3, h4⟩ := id hv
  obtain ⟨af, capf, rfl, f1, f2, f3, f4⟩ := id hf
  clear h2 h3 h4 hv hf f3 f4
  obtain ⟨S, hS⟩ : ∃ S, S = scanF l := ⟨_, rfl⟩
  obtain ⟨sf, sn⟩ := S
  have HS := hid hS
  clear hS
  go_enter Try.func8, Try.ntmps8
  go_wp2_with (first | (go_at_call 15; refine (awake_any _).mono ?_; rintro e w1 ⟨rfl, hb1⟩; have HV1 := hid (HV.out.below hb1)) | (go_at_call 16; go_must (refine (lent_any _ _ l HV1.out (by omega)).mono ?_; rintro e w2 ⟨g, cap, rfl, hg, HO2, hb2⟩; have HV2 := hid (HV1.out.below hb2); have HR2 := hid ((rdB_own HO2).head [77, 77, 77] rfl); have HH2 := hid HO2; have HB2 := hid (hb1.trans (hb2.mono hb1.size)); clear HO2 hb1 hb2)))
  refine (Scan_any _ _ l HR2.out (by omega)).mono ?_
  rintro e w3 ⟨vx, he, hox, hb3⟩
  rw [← HS.out] at he hox
  subst he
  dsimp only at hox ⊢
  have HX3 := hid hox
  have HV3 := hid (HV2.out.below hb3)
  have HH3 := hid (own_belowS HH2.out hb3)
  have HB3 := hid (HB2.out.trans (hb3.mono HB2.out.size))
  clear hox hb3 HV2 HR2 HH2 HB2
  go_wp2_with fail
  refine (RScan_any _ _ l HV3.out (by omega)).mono ?_
  rintro e w4 ⟨vy, he, hoy, hb4⟩
  rw [← HS.out] at he hoy
  subst he
  dsimp only at hoy ⊢
  have HX4 := hid (HX3.out.below hb4).rdF
  have HY4 := hid hoy.rdF
  have HV4 := hid (HV3.out.below hb4)
  have HH4 := hid (own_belowS HH3.out hb4)
  have HB4 := hid (HB3.out.trans (hb4.mono HB3.out.size))
  clear hoy hb4 HX3 HV3 HH3 HB3
  go_wp2_with fail
  refine (SameFrames_any _ _ _ sf sf HX4.out HY4.out).mono ?_
  rw [decide_eq_true (rfl : sf = sf)]
  rintro e w5 ⟨rfl, hb5⟩
  have HV5 := hid (HV4.out.below hb5)
  have HH5 := hid (own_belowS HH4.out hb5)
  have HB5 := hid (HB4.out.trans (hb5.mono HB4.out.size))
  clear hb5 HX4 HY4 HV4 HH4 HB4
  go_wp2_with (go_at_call 18; go_must (refine (held_any _ g cap l _ (rdB_own HH5.out) HV5.out (by omega)).mono ?_; rintro e w6 ⟨rfl, rfl⟩))
  have HN1 : Hid (OwnB w5 w5.heap.size (.slice none 0 0) []) := World.ownsRow_nil _ _ _ _
  have HN2 : Hid (OwnG w5 w5.heap.size (.slice none 0 0) []) := OwnG.nil _ _
  have hB5 := HB5.out.size
  go_loopw [13, 14, 15] (fun u1 u2 i wr => ∃ k : Nat, k ≤ fs.length ∧ k ≤ 40 ∧ i = .int .i64 k ∧ OwnB wr w5.heap.size u1 (allF (goodF (fs.take k))) ∧ OwnG wr w5.heap.size u2 (goodF (fs.take k)) ∧ (allF (goodF (fs.take k))).length ≤ 2015 * k ∧ (goodF (fs.take k)).length ≤ k ∧ Below w5.heap.size w5 wr) (fun _ _ i _ => 40 - (intOf i).toNat)
  case atStart => exact ⟨0, by omega, by omega, rfl, HN1.out, HN2.out, by simp [allF, goodF], by simp [goodF], Below.refl _ _⟩
  case round =>
    obtain ⟨k, hk, hk40, rfl, ho1, ho2, hlen, hgl, hbel⟩ := hrel
    have HO1 := hid ho1
    have HO2 := hid ho2
    have hbs := hbel.size
    obtain ⟨a1, c1, rfl⟩ := ho1.slice
    obtain ⟨a2, c2, rfl⟩ := ho2.ownF.slice
    clear ho1 ho2
    by_cases hlt : k < fs.length
    · by_cases hlt4 : k < 40
      · have hsn := goodF_snoc fs k hlt
        obtain ⟨gf, of, capf', dv, e, hgf, hc0, hc1, hrd⟩ := HF.out.at k hlt
        simp only [Value.slice.injEq] at e
        obtain ⟨rfl, -, rfl⟩ := e
        have hdb : 0 < fs[k].2.length → ∀ b, dv.ownBlock = some b → b < w5.heap.size := fun hn b hb => by have := Rd.block_lt hrd hn b hb; omega
        have hBr := HB5.out.trans (hbel.mono hB5)
        have c0 := (hBr.cell (p := ⟨gf, of + k * 2, none⟩) hgf).trans hc0
        have c1 := (hBr.cell (p := ⟨gf, of + k * 2 + 1, none⟩) hgf).trans hc1
        have HRD := hid (hrd.below hBr)
        have HRD0 := hid hrd
        have HC00 := hid hc0
        have HC11 := hid hc1
        have HDB := hid hdb
        clear hdb hrd hc0 hc1
        obtain ⟨x, hx⟩ : ∃ x, x = fs[k] := ⟨_, rfl⟩
        rw [← hx] at hsn c0 HRD HDB HRD0 HC00
        obtain ⟨kb, d⟩ := x
        dsimp only at hsn c0 HRD HDB HRD0 HC00
        clear hx
        by_cases hd : d.length ≤ 2000
        · rw [if_pos hd] at hsn
          have HSN := hid hsn
          clear hsn
          generalize goodF (fs.take k) = G at *
          obtain ⟨ad, cd, rfl, -⟩ := id HRD.out
          have hpl := putF_length kb d
          have hpu := putU_len d.length
          have hpl' : (putF kb d).length ≤ 2015 := by omega
          clear hpl hpu
          have HC0 := hid c0
          have HC1 := hid c1
          go_wp2_with (first | (at_builtin; have := HQ2; go_must (refine wl_appG rfl _ _ _ rfl w5.heap.size _ G rfl (HQ2.out.below ((Below.refl _ _).alloc (Nat.le_refl _) (.cells #[.int .u8 ((kb.toNat : Nat) : Int), .slice ad d.length cd] 31))) _ kb (.slice ad d.length cd) d rfl HS9.out (HR8.out.alloc _) HDB.out (by omega) (by simp; omega) ?_; intro v9 w9 k1 k4 k5 k6; have HZ1 := hid (own_grown (own_belowS HQ1.out ((Below.refl _ _).alloc (Nat.le_refl _) (.cells #[.int .u8 ((kb.toNat : Nat) : Int), .slice ad d.length cd] 31))) k4 (fun b hb hv => by obtain ⟨gs, -, hrow, -⟩ := HQ2.out; exact rows_apart HQ1.out hrow (by decide) b hb hv)))) | (go_at_call 21; go_must (refine (PutFrame_any _ _ [] kb _ d (Rd.nil _ _) HRD.out hd (by simp)).mono ?_; rw [List.nil_append]; rintro e w7 ⟨v7, rfl, ho7, hb7⟩; have HO7 := hid ho7; have HP1 := hid (own_belowS HO1.out hb7); have HP2 := hid (HO2.out.below hb7); have hs7 := hb7.size; have hbl7 := hid (hbel.trans (hb7.mono hbs)); have HR7 := hid (HRD.out.below hb7); clear ho7)) | (at_builtin; go_must (refine wl_appB rfl _ _ _ rfl w5.heap.size _ (allF G) rfl (appB_own HP1.out) _ (putF kb d) rfl (src_B (rdB_own HO7.out)) (by omega) (by omega) ?_; intro v8 w8 k1 k2 k3 k4 k5 k6; have HQ1 : Hid (OwnB w8 w5.heap.size v8 (allF G ++ putF kb d)) := hid (k3 HP1.out); have HQ2 := hid (HP2.out.grown k4 (fun b hb hv => by obtain ⟨gs, -, hrow, -⟩ := HP2.out; exact rows_apart HP1.out hrow (by decide) b hv hb) (fun b hb => (HP1.out.lt b hb).1)); have hbl8 := hid (hbl7.out.trans k5); have HBw8 := hid (HB5.out.trans (hbl8.out.mono hB5)); have c08 := (hbl8.out.cell (p := ⟨gf, of + k * 2, none⟩) (by simp; omega)).trans ((HB5.out.cell (p := ⟨gf, of + k * 2, none⟩) hgf).trans HC00.out); have c18 := (hbl8.out.cell (p := ⟨gf, of + k * 2 + 1, none⟩) (by simp; omega)).trans ((HB5.out.cell (p := ⟨gf, of + k * 2 + 1, none⟩) hgf).trans HC11.out); have hs8 := k5.size; obtain ⟨a8, c8, rfl⟩ := HQ1.out.slice; have HR8 := hid (HRD0.out.below HBw8.out); have HS9 := hid (src_fr w8 w8.heap.size kb (.slice ad d.length cd) rfl rfl); clear k1 k2 k3 k4 k5 k6)))
          go_roundw
          case rel =>
            refine ⟨k + 1, by omega, by omega, by go_num, ?_, by rw [HSN.out]; exact k1, ?_, by rw [HSN.out]; simp; omega, ?_⟩
            · rw [HSN.out, allF_snoc]; unfold OwnB; have h := HZ1.out; rw [List.length_append] at h ⊢; exact h
            · rw [HSN.out, allF_snoc, List.length_append]; dsimp only; omega
            · exact (hbl8.out.alloc (by omega) _).trans k5
          case measure => simp [intOf]; omega
        · rw [if_neg hd] at hsn
          have HSN := hid hsn
          clear hsn
          generalize goodF (fs.take k) = G at *
          go_wp2_with (go_at_call 21; go_must (refine (PutFrame_long _ _ [] kb _ d HRD.out (by omega)).mono ?_; rintro e w7 ⟨rfl, hb7⟩))
          go_roundw
          case rel => exact ⟨k + 1, by omega, by omega, by go_num, by rw [HSN.out]; exact own_belowS HO1.out hb7, by rw [HSN.out]; exact HO2.out.below hb7, by rw [HSN.out]; omega, by rw [HSN.out]; omega, hbel.trans (hb7.mono hbs)⟩
          case measure => simp [intOf]; omega
      · have h40 : (40 : Int) ≤ (k : Int) := by omega
        have hsc := scanF_all (goodF (fs.take k)) (goodF_small _)
        have HSC := hid hsc
        clear hsc
        generalize goodF (fs.take k) = G at *
        go_wp2_with fail
        refine (Scan_any _ _ _ (rdB_own HO1.out) (by omega)).mono ?_
        rintro e w7 ⟨vz, he, hoz, hb7⟩
        rw [HSC.out] at he hoz
        subst he
        dsimp only at hoz ⊢
        have HZ7 := hid hoz.rdF
        have HG7 := hid (HO2.out.below hb7).ownF.rdF
        obtain ⟨az, cz, rfl⟩ := hoz.slice
        have hbl7 := hid (hbel.trans (hb7.mono hbs))
        clear hoz hb7
        go_wp2_with fail
        refine (SameFrames_any _ _ _ G G HZ7.out HG7.out).mono ?_
        rw [decide_eq_true (rfl : G = G)]
        rintro e w8 ⟨rfl, hb8⟩
        have hbl8 := hid (hbl7.out.trans (hb8.mono hbl7.out.size))
        go_wp2_with fail
        go_ret
        exact ⟨rfl, HB5.out.trans (hbl8.out.mono hB5)⟩
    · have hsc := scanF_all (goodF (fs.take k)) (goodF_small _)
      have HSC := hid hsc
      clear hsc
      generalize goodF (fs.take k) = G at *
      go_wp2_with fail
      refine (Scan_any _ _ _ (rdB_own HO1.out) (by omega)).mono ?_
      rintro e w7 ⟨vz, he, hoz, hb7⟩
      rw [HSC.out] at he hoz
      subst he
      dsimp only at hoz ⊢
      have HZ7 := hid hoz.rdF
      have HG7 := hid (HO2.out.below hb7).ownF.rdF
      obtain ⟨az, cz, rfl⟩ := hoz.slice
      have hbl7 := hid (hbel.trans (hb7.mono hbs))
      clear hoz hb7
      go_wp2_with fail
      refine (SameFrames_any _ _ _ G G HZ7.out HG7.out).mono ?_
      rw [decide_eq_true (rfl : G = G)]
      rintro e w8 ⟨rfl, hb8⟩
      have hbl8 := hid (hbl7.out.trans (hb8.mono hbl7.out.size))
      go_wp2_with fail
      go_ret
      exact ⟨rfl, HB5.out.trans (hbl8.out.mono hB5)⟩
end Go.Proofs.Ythmpikbbkoblfaa
