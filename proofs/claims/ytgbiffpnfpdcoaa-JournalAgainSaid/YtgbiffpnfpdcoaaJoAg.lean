/- cartularylaw04.JournalAgain, walked. -/
import Derived.Test.YtgbiffpnfpdcoaaJ7
namespace Go.Proofs.Ytgbiffpnfpdcoaa
open Go.RowKit Go.Maps
set_option linter.unusedVariables false
set_option linter.unusedSimpArgs false

theorem sum_ok {H : Int → Bk} {i : Nat} {X : Bk} (hi : i < 44) (h : ∀ j : Nat, j < i → (H (20 + (j : Int))).length = 512) (hx : X.length = 512) : ¬ ((⟨(allF H i).toArray⟩ : ByteArray).size + (⟨X.toArray⟩ : ByteArray).size > 9223372036854775807) := by
  have h1 := allF_len H i h
  show ¬ ((allF H i).toArray.size + X.toArray.size > 9223372036854775807)
  simp only [List.size_toArray]
  omega
theorem sum_next (H : Int → Bk) (i : Nat) : (⟨(allF H i).toArray⟩ : ByteArray) ++ (⟨(H (20 + (i : Int))).toArray⟩ : ByteArray) = ⟨(allF H (i + 1)).toArray⟩ := by
  rw [allF_next, ByteArray.mk_append_mk]
theorem cut_ok {H : Int → Bk} (h : ∀ j : Nat, j < 44 → (H (20 + (j : Int))).length = 512) :
    (⟨(allF H 44).toArray⟩ : ByteArray).size = 22528 ∧ ∀ b : Nat, b < 44 → (⟨(allF H 44).toArray⟩ : ByteArray).extract (512 * (b : Int)).toNat (512 * (b : Int) + 512).toNat = ⟨(H (20 + (b : Int))).toArray⟩ := by
  have hl := allF_len H 44 h
  refine ⟨?_, fun b hb => ?_⟩
  · show (allF H 44).toArray.size = _
    rw [List.size_toArray, hl]
  · rw [← allF_cut H b 44 hb h]
    apply ByteArray.ext
    rw [show (512 * (b : Int)).toNat = 512 * b by omega, show (512 * (b : Int) + 512).toNat = 512 * b + 512 by omega]
    simp only [ByteArray.data_extract, List.extract_toArray, List.extract_eq_take_drop]
    rw [show 512 * b + 512 - 512 * b = 512 by omega]

set_option maxRecDepth 100000 in
set_option maxHeartbeats 8000000 in
theorem journalAgain_walk (w : World) (v1 : Value) (wl : List One) (hv1 : RdS rOne w (fun k => k < w.heap.size) v1 wl) (k : Int) (hk : -9223372036854775808 ≤ k ∧ k ≤ 9223372036854775807) (v2 : Value) (stops : List Int) (hv2 : RdS rI w (fun k => k < w.heap.size) v2 stops) (v3 : Value) (picks : List Int) (hv3 : RdS rI w (fun k => k < w.heap.size) v3 picks) :
    Calls Try.prog 19 #[v1, .int .i64 k, v2, v3] w fun e w' => e = .returned (.bool true) ∧ Below w.heap.size w w' := by
  obtain ⟨va1, vc1, rfl, -⟩ := hv1.slice
  obtain ⟨va2, vc2, rfl, -⟩ := hv2.slice
  obtain ⟨va3, vc3, rfl, -⟩ := hv3.slice
  have HV1 := hid hv1
  have HV2 := hid hv2
  have HV3 := hid hv3
  have HK := hid hk
  clear hv1 hv2 hv3 hk
  go_enter Try.func19, Try.ntmps19
  go_wp2_with fail
  refine (awake04_any w).mono ?_
  rintro e w1 ⟨rfl, hx1⟩
  have HX1 := hid hx1
  clear hx1
  go_wp2_with fail
  refine (laid_any w1 64 (by omega)).mono ?_
  rintro e w2 ⟨g, gl0, ρ, d, rfl, hlog, hc⟩
  generalize (fun _ : Int => zb) = Hz at hlog
  have HL := hid hlog
  have HX2 := hid (HX1.out.trans hlog.hm.ex)
  clear hlog hc
  go_wp2_with fail
  refine (within_any w2 _ _ wl (HV1.out.ext HX2.out)).mono ?_
  rintro e w3 ⟨vb, rfl, hvb, hx3⟩
  have hwin := within_in wl
  generalize withinF wl = ws at hvb hwin
  obtain ⟨ba, bc, rfl, -⟩ := hvb.slice
  have HWIN := hid hwin
  have hz2 := HX2.out.size
  have hz3 := hx3.size
  have hgl := HL.out.log.lt
  have hla : LogAt w1 w3 g ρ 3000 d gl0 64 1 Hz := { HL.out with hm := HL.out.hm.ext hx3, log := HL.out.log.ext hx3 }
  have hnew : ∀ k, w2.heap.size ≤ k → ρ k = none ∧ k ≠ gl0 := fun k hk => ⟨HL.out.hm.late (Ext.refl _) hk, by omega⟩
  have hng0 : ∀ j, ρ j = none → j ≠ g := fun j hj e => by
    obtain ⟨_, _, _, h⟩ := HL.out.hm.dv
    rw [e, h.rg] at hj; cases hj
  have HVB := hid (hvb.mono (S' := fun j => w2.heap.size ≤ j ∧ j < w3.heap.size) fun j hj hl => ⟨hj, hl⟩)
  have HLA := hid hla
  have HNEW := hid hnew
  have HNG0 := hid hng0
  clear hvb hx3 hla hnew hng0 hwin
  go_wp2_with fail
  refine (Pick_any _ k 60 HK.out (by omega) (by omega)).mono ?_
  rintro e w' ⟨rfl, rfl⟩
  have hpl := pickF_lt k (60 : Int).toNat (by decide)
  generalize pickF k (60 : Int).toNat = kk at hpl ⊢
  have hpl : kk < 60 := hpl
  go_wp2_with fail
  refine (LFuse HLA.out kk (by omega)).mono ?_
  rintro e wf ⟨rfl, df, hlf, hkf⟩
  have HVBF := hid (HVB.out.kept (hkf.mono fun j hj _ => HNG0.out j (HNEW.out j hj.1).1))
  have HLF := hid hlf
  have hzf := hkf.size
  clear hlf hkf
  go_wp2_with fail
  refine (LCommitI HLF.out (by omega) (by omega) (by omega) _ _ (HVBF.out.mono fun j hj _ => HNEW.out j hj.1) HWIN.out).mono ?_
  rintro e wg ⟨ok, ρ9, d9, rfl, hdn, hr9, hk9, hm9, hl9, hi9⟩
  have HVBG := hid (HVBF.out.kept (hk9.mono fun j hj _ => HNEW.out j hj.1))
  have HR9 := hid (fun j (h1 : w2.heap.size ≤ j) (h2 : j < w3.heap.size) => rol_old hr9 (HNEW.out j h1).1 (by omega))
  have HM9 := hid hm9
  have HL9 := hid hl9
  have HI9 := hid hi9
  have hz9 := hk9.size
  have hne : ((if ok = true then (0 : Int) else 2) != 0) = !ok := by cases ok <;> rfl
  obtain ⟨ec, hec⟩ : ∃ ec : Int, ec = if ok = true then (0 : Int) else 2 := ⟨_, rfl⟩
  rw [← hec] at hne ⊢
  clear hr9 hk9 hm9 hl9 hi9 hdn hec
  go_wp2_with fail
  refine (LCrash HM9.out (by omega) HL9.out _ HI9.out (fun j => j < w.heap.size) _ picks (HV3.out.ext (HX1.out.trans HM9.out.ex)) (fun j hj _ => by
    by_cases e : ρ9 j = none
    · exact e
    · have := HM9.out.nw j e; have := HX1.out.size; omega)).mono ?_
  rintro e wc ⟨rfl, dc, hmc, hcc, hsc, hlc, ⟨n', H0, res, hn', hst, hwi, hG⟩, hkc⟩
  have HVBC := hid ((HVBG.out.kept (hkc.mono fun j hj _ => HR9.out j hj.1 hj.2)).mono (S' := fun j => ρ9 j = none ∧ j < w3.heap.size) fun j hj _ => ⟨HR9.out j hj.1 hj.2, hj.2⟩)
  have hzc := hkc.size
  obtain ⟨H1, hH1⟩ : ∃ H1, Hn H0 res = H1 := ⟨_, rfl⟩
  rw [hH1] at hG
  have HLIES := hid (show Lies 64 2 (curF dc) fun H => H = H1 from ⟨n', H0, res, hn', hst, hwi, hH1⟩)
  have HMC := hid hmc
  have HCC := hid hcc
  have HSC := hid hsc
  have HLC := hid hlc
  have HG := hid hG
  clear hmc hcc hsc hlc hst hwi hkc hG hH1 hn'
  have hz03 : wc.heap.size ≥ w3.heap.size := by omega
  have hz01 := HX1.out.size
  have hz12 := HL.out.hm.ex.size
  go_wp2_with fail
  go_loopw [14] (fun u14 wq => ∃ (i : Nat) (ρi : Nat → Option DRol) (di : Dv), u14 = .int .i64 i ∧ i ≤ stops.length ∧ i ≤ 8 ∧ Mine w1 wq g ρi (3500 + 300 * i) di ∧ Calm di ∧ Still di ∧ di.safe.length = 64 ∧ Lies 64 (2 + i) (curF di) (fun H => H = H1) ∧ RdS rWr wq (fun j => ρi j = none ∧ j < w3.heap.size) (.slice ba ws.length bc) ws ∧ w3.heap.size ≤ wq.heap.size) (fun u14 _ => 8 - (intOf u14).toNat)
  case atStart => exact ⟨0, ρ9, dc, rfl, Nat.zero_le _, Nat.zero_le _, HMC.out, HCC.out, HSC.out, HLC.out, HLIES.out, HVBC.out, hz03⟩
  case round =>
    clear HMC HCC HSC HLC HLIES HVBC hz03
    obtain ⟨i, ρi, di, rfl, hi, hi8, hmi, hci, hsi, hli, hlie, hvb, hz3r⟩ := hrel
    have HM := hid hmi
    have HC := hid hci
    have HS := hid hsi
    have HLE := hid hli
    have HLI := hid hlie
    have HVB := hid hvb
    have HXW := hid (HX1.out.trans hmi.ex)
    have HNG := hid (show ∀ j, ρi j = none → j ≠ g from fun j hj e => by
      obtain ⟨_, _, _, h⟩ := hmi.dv
      rw [e, h.rg] at hj; cases hj)
    clear hmi hci hsi hli hlie hvb
    have hex : (i < stops.length ∧ i < 8) ∨ ¬ i < stops.length ∨ (i < stops.length ∧ ¬ i < 8) := by omega
    rcases hex with ⟨hlt, hl8⟩ | hex
    · have i1 : (i : Int) < (stops.length : Int) := by omega
      have i2 : (i : Int) < 8 := by omega
      have hw1 : IntKind.i64.wrap ((i : Int) + 1) = (i : Int) + 1 := by rw [IntKind.wrap_i64]; omega
      obtain ⟨gs, os, cs, e, hgs, hSs, d0, b0⟩ := (HV2.out.ext HXW.out).atI i hlt
      simp only [Value.slice.injEq] at e
      obtain ⟨rfl, -, rfl⟩ := e
      generalize stops[i] = sk at d0 b0
      go_wp2_with fail
      refine (Pick_any _ sk 30 b0 (by omega) (by omega)).mono ?_
      rintro e w' ⟨rfl, rfl⟩
      have hpl2 := pickF_lt sk (30 : Int).toNat (by decide)
      generalize pickF sk (30 : Int).toNat = k2 at hpl2 ⊢
      have hpl2 : k2 < 30 := hpl2
      clear d0
      go_wp2_with fail
      refine (MFuseS HM.out (calm_up HC.out) k2 (by omega)).mono ?_
      rintro e wf2 ⟨rfl, df2, hmf, huf, hsf, hkf⟩
      have HVB2 := hid (HVB.out.kept (hkf.mono fun j hj _ => HNG.out j hj.1))
      have HMF := hid hmf
      have HUF := hid huf
      have HSF := hid hsf
      have hzf2 := hkf.size
      clear hmf huf hsf hkf
      go_wp2_with fail
      refine (LOpenI HMF.out (by omega) HUF.out (HSF.out.still HS.out) (HSF.out.len.trans HLE.out) (by omega) (n := 2 + i) (by omega) (G := H1) (by rw [show curF df2 = curF di from funext fun j => HSF.out.cur j]; exact HLI.out)).mono ?_
      rintro e wo ⟨ok2, p, ρ2, d2, rfl, hp, hr2, hk2, hm2, hl2, hi2⟩
      have HVB3 := hid ((HVB2.out.kept (hk2.mono fun j hj _ => hj.1)).mono (S' := fun j => ρ2 j = none ∧ j < w3.heap.size) fun j hj _ => ⟨rol_old hr2 hj.1 (by omega), hj.2⟩)
      have HM2 := hid hm2
      have HL2 := hid hl2
      have HI2 := hid hi2
      have hzo := hk2.size
      have HX := hid (HX1.out.trans hm2.ex)
      clear hr2 hk2 hm2 hl2 hi2
      have HEND := hid (show ∀ (W : World) (e : Ending), (e = .returned (.tuple #[]) ∧ ∃ d', Mine w1 W g ρ2 (3500 + 300 * i + 300) d' ∧ Calm d' ∧ Still d' ∧ d'.safe.length = 64 ∧ Lies 64 (2 + i + 1) (curF d') (fun H => H = H1) ∧ Keep (fun k => ρ2 k = none) wo W) → e = .returned (.tuple #[]) ∧ ∃ (i' : Nat) (ρi' : Nat → Option DRol) (di' : Dv), Value.int .i64 ((i : Int) + 1) = .int .i64 i' ∧ i' ≤ stops.length ∧ i' ≤ 8 ∧ Mine w1 W g ρi' (3500 + 300 * i') di' ∧ Calm di' ∧ Still di' ∧ di'.safe.length = 64 ∧ Lies 64 (2 + i') (curF di') (fun H => H = H1) ∧ RdS rWr W (fun j => ρi' j = none ∧ j < w3.heap.size) (.slice ba ws.length bc) ws ∧ w3.heap.size ≤ W.heap.size from
        fun W e ⟨he, d', h1, h2, h3, h4, h5, h6⟩ => ⟨he, i + 1, ρ2, d', rfl, by omega, by omega, h1.mono (by omega), h2, h3, h4, by rw [← Nat.add_assoc]; exact h5, HVB3.out.kept (h6.mono fun j hj _ => hj.1), by have := h6.size; omega⟩)
      have hcr := LCrash HM2.out (by omega) HL2.out _ HI2.out (fun j => j < w.heap.size) _ picks (HV3.out.ext HX.out) (fun j hj _ => by
        by_cases e : ρ2 j = none
        · exact e
        · have := HM2.out.nw j e; omega)
      have HCR := hid hcr
      clear hcr
      cases ok2
      all_goals
        cases p
        · first
          | (simp at hp; done)
          | (go_wp2_with fail
             refine HCR.out.mono ?_
             intro e wc2 hcrash
             obtain ⟨rfl, hend⟩ := HEND.out wc2 e hcrash
             have HE := hid hend
             clear hcrash hend
             go_wp2_with fail
             exact ⟨HE.out, by simp only [intOf]; omega⟩)
        · first
          | (simp at hp; done)
          | (go_wp2_with fail
             refine HCR.out.mono ?_
             intro e wc2 hcrash
             obtain ⟨rfl, hend⟩ := HEND.out wc2 e hcrash
             have HE := hid hend
             clear hcrash hend
             go_wp2_with fail
             exact ⟨HE.out, by simp only [intOf]; omega⟩)
    · have HOP := hid (show ∃ n7 H7 res7, n7 ≤ 2 + i ∧ Hn H7 res7 = H1 ∧ Calls Try.prog 49 #[.pointer (some ⟨g, 0, none⟩)] wr fun e W' => ∃ ρ' d' gl, e = .returned (.tuple #[.pointer (some ⟨gl, 0, none⟩), .int .i64 0]) ∧ LogAt w1 W' g ρ' (3500 + 300 * i + 300) d' gl 64 (n7 + 1) (Hn H7 res7) ∧ Calm d' ∧ RolNew ρi ρ' wr ∧ Keep (fun k => ρi k = none) wr W' ∧ wr.heap.size ≤ gl by
        obtain ⟨n7, H7, res7, h1, h2, h3, h4⟩ := HLI.out
        exact ⟨n7, H7, res7, h1, h4, LOpen HM.out (by omega) HC.out HS.out HLE.out (by omega) (by omega) h2 h3⟩)
      have hi88 : i ≤ 8 := hi8
      rcases hex with hn1 | ⟨hn1, hn2⟩
      all_goals
        first | (have i1 : ¬ (i : Int) < (stops.length : Int) := by omega) | skip
        first | (have i1 : (i : Int) < (stops.length : Int) := by omega) | skip
        first | (have i2 : ¬ (i : Int) < 8 := by omega) | skip
        go_wp2_with fail
        obtain ⟨n7, H7, res7, hn7, hH7, hop⟩ := HOP.out
        refine hop.mono ?_
        rintro e w7 ⟨ρ7, d7, gm, rfl, hl7, hc7, hr7, hk7, hgm⟩
        rw [hH7] at hl7
        have HVB7 := hid ((HVB.out.kept (hk7.mono fun j hj _ => hj.1)).mono (S' := fun j => (ρ7 j = none ∧ j ≠ gm) ∧ j < w3.heap.size) fun j hj _ => ⟨⟨rol_old hr7 hj.1 (by omega), by omega⟩, hj.2⟩)
        have HL7 := hid hl7
        have HC7 := hid hc7
        have hz7 := hk7.size
        have HNG7 := hid (show ∀ j, ρ7 j = none → j ≠ g from fun j hj e => by
          obtain ⟨_, _, _, h⟩ := hl7.hm.dv
          rw [e, h.rg] at hj; cases hj)
        clear hl7 hc7 hr7 hk7 hop hH7 HVB HOP HM HC HS HLE HLI i1
        go_wp2_with fail
        go_loopw [19, 20] (fun u19 u20 wq => ∃ (i : Nat) (di : Dv), u19 = .string ⟨(allF H1 i).toArray⟩ ∧ u20 = .int .i64 i ∧ i ≤ 44 ∧ LogAt w1 wq g ρ7 (7000 + i) di gm 64 (n7 + 1) H1 ∧ Calm di ∧ (∀ j : Nat, j < i → (H1 (20 + (j : Int))).length = 512) ∧ RdS rWr wq (fun j => (ρ7 j = none ∧ j ≠ gm) ∧ j < w3.heap.size) (.slice ba ws.length bc) ws ∧ w3.heap.size ≤ wq.heap.size) (fun _ u20 _ => 44 - (intOf u20).toNat)
        case atStart => exact ⟨0, d7, rfl, rfl, Nat.zero_le _, { HL7.out with hm := HL7.out.hm.mono (by omega) }, HC7.out, fun j hj => absurd hj (by omega), HVB7.out, by omega⟩
        case round =>
          clear HL7 HC7 HVB7
          obtain ⟨i, di, rfl, rfl, hi, hli, hci, hlen, hvb, hz3q⟩ := hrel
          have HLI := hid hli
          have HCI := hid hci
          have HLEN := hid hlen
          have HVB := hid hvb
          clear hli hci hlen hvb
          by_cases hlt : i < 44
          · have i1 : (i : Int) < 44 := by omega
            have hw1 : IntKind.i64.wrap ((i : Int) + 1) = (i : Int) + 1 := by rw [IntKind.wrap_i64]; omega
            go_wp2_with fail
            refine (LRead HLI.out HCI.out (by omega) (by omega) i (by omega)).mono ?_
            rintro e w8 ⟨kx, rfl, hkx, hrx, hxl, d8, hl8, hc8, hk8⟩
            have hs1 := sum_ok hlt HLEN.out hxl
            have hs2 := sum_next H1 i
            have hln : ∀ j : Nat, j < i + 1 → (H1 (20 + (j : Int))).length = 512 := fun j hj => by
              by_cases e : j = i
              · subst e; exact hxl
              · exact HLEN.out j (by omega)
            have HVB8 := hid (HVB.out.kept (hk8.mono fun j hj _ => ⟨HNG7.out j hj.1.1, hj.1.2⟩))
            have HS2 := hid hs2
            have HLN := hid hln
            have HL8 := hid hl8
            have HC8 := hid hc8
            have hz8 := hk8.size
            have s1 := run_strB hrx
            generalize H1 (20 + (i : Int)) = X at s1 hs1 HS2
            clear hrx hl8 hc8 hk8 hs2 hln hxl
            go_wp2_with fail
            exact ⟨⟨i + 1, d8, by rw [← HS2.out], rfl, by omega, { HL8.out with hm := HL8.out.hm.mono (by omega) }, HC8.out, HLN.out, HVB8.out, by omega⟩, by simp only [intOf]; omega⟩
          · have hie : i = 44 := by omega
            subst hie
            have i1 : ¬ (((44 : Nat) : Int) < 44) := by omega
            go_wp2_with fail
            refine (LCrash HLI.out.hm (by omega) HLI.out.len (fun s => LogS 64 s (n7 + 1) H1) (fun s hs => HLI.out.sp.cur (by omega) fun j a b => img_still HLI.out.st hs j a (by rw [HLI.out.len]; exact b)) (fun _ => False) _ [] (RdS.nil _ _ _) (fun j hj _ => hj.elim)).mono ?_
            rintro e wc ⟨rfl, dc, hmc, hcc, hsc, hlc, hpc, hkc⟩
            have HVBC := hid (HVB.out.kept (hkc.mono fun j hj _ => hj.1.1))
            have HOP := hid (LOpen hmc (by omega) hcc hsc hlc (by omega) (n := n7 + 1) (by omega) (H := H1) (res := none) (.inl ⟨rfl, hpc⟩) (wsIn_nil 64))
            have hzc := hkc.size
            clear hmc hcc hsc hlc hpc hkc i1
            go_wp2_with fail
            refine HOP.out.mono ?_
            rintro e wo ⟨ρo, do', gm2, rfl, hlo, hco, hro, hko, hgm2⟩
            rw [hn_none] at hlo
            have HVBO := hid ((HVBC.out.kept (hko.mono fun j hj _ => hj.1.1)).mono (S' := fun j => (ρo j = none ∧ j ≠ gm2) ∧ j < w3.heap.size) fun j hj _ => ⟨⟨rol_old hro hj.1.1 (by omega), by omega⟩, hj.2⟩)
            have HLO := hid hlo
            have HCO := hid hco
            have hzo := hko.size
            have HNGO := hid (show ∀ j, ρo j = none → j ≠ g from fun j hj e => by
              obtain ⟨_, _, _, h⟩ := hlo.hm.dv
              rw [e, h.rg] at hj; cases hj)
            clear hlo hco hro hko HOP HVBC HVB HLI HCI
            go_wp2_with fail
            go_loopw [25, 26] (fun u25 u26 wq => ∃ (i : Nat) (di : Dv), u25 = .string ⟨(allF H1 i).toArray⟩ ∧ u26 = .int .i64 i ∧ i ≤ 44 ∧ LogAt w1 wq g ρo (8000 + i) di gm2 64 (n7 + 1 + 1) H1 ∧ Calm di ∧ RdS rWr wq (fun j => (ρo j = none ∧ j ≠ gm2) ∧ j < w3.heap.size) (.slice ba ws.length bc) ws ∧ w3.heap.size ≤ wq.heap.size) (fun _ u26 _ => 44 - (intOf u26).toNat)
            case atStart => exact ⟨0, do', rfl, rfl, Nat.zero_le _, { HLO.out with hm := HLO.out.hm.mono (by omega) }, HCO.out, HVBO.out, by omega⟩
            case round =>
              clear HLO HCO HVBO
              obtain ⟨i, di, rfl, rfl, hi, hli, hci, hvb, hz3p⟩ := hrel
              have HLI := hid hli
              have HCI := hid hci
              have HVB := hid hvb
              clear hli hci hvb
              by_cases hlt : i < 44
              · have i1 : (i : Int) < 44 := by omega
                have hw1 : IntKind.i64.wrap ((i : Int) + 1) = (i : Int) + 1 := by rw [IntKind.wrap_i64]; omega
                go_wp2_with fail
                refine (LRead HLI.out HCI.out (by omega) (by omega) i (by omega)).mono ?_
                rintro e w8 ⟨kx, rfl, hkx, hrx, hxl, d8, hl8, hc8, hk8⟩
                have hs1 := sum_ok hlt (fun j hj => HLEN.out j (by omega)) hxl
                have hs2 := sum_next H1 i
                have HVB8 := hid (HVB.out.kept (hk8.mono fun j hj _ => ⟨HNGO.out j hj.1.1, hj.1.2⟩))
                have HS2 := hid hs2
                have HL8 := hid hl8
                have HC8 := hid hc8
                have hz8 := hk8.size
                have s1 := run_strB hrx
                generalize H1 (20 + (i : Int)) = X at s1 hs1 HS2
                clear hrx hl8 hc8 hk8 hs2 hxl
                go_wp2_with fail
                exact ⟨⟨i + 1, d8, by rw [← HS2.out], rfl, by omega, { HL8.out with hm := HL8.out.hm.mono (by omega) }, HC8.out, HVB8.out, by omega⟩, by simp only [intOf]; omega⟩
              · have hie : i = 44 := by omega
                subst hie
                have i1 : ¬ (((44 : Nat) : Int) < 44) := by omega
                have HXX := hid (HX1.out.trans HLI.out.hm.ex)
                cases ok
                · go_wp2_with fail
                  go_ret
                  exact ⟨by simp, HXX.out⟩
                · have hG2 : H1 = wcurF 0 ws 0 Hz := by
                    rcases HG.out with ⟨h, -⟩ | h
                    · exact absurd h (by decide)
                    · exact h
                  have HG2 := hid hG2
                  have HVBX := hid (HVB.out.mono (S' := fun _ => True) fun _ _ _ => trivial)
                  have HCUT := hid (cut_ok HLEN.out)
                  generalize (⟨(allF H1 44).toArray⟩ : ByteArray) = sA at HCUT ⊢
                  clear HLI HCI HVB hG2 HG
                  go_wp2_with fail
                  go_loopw [29] (fun u29 wq => ∃ (i : Nat), u29 = .int .i64 i ∧ i ≤ ws.length ∧ RdS rWr wq (fun _ => True) (.slice ba ws.length bc) ws ∧ Ext w wq) (fun u29 _ => ws.length - (intOf u29).toNat)
                  case atStart => exact ⟨0, rfl, Nat.zero_le _, HVBX.out, HXX.out⟩
                  case round =>
                    clear HVBX HXX i1
                    obtain ⟨i, rfl, hi, hvb, hxq⟩ := hrel
                    have HVB := hid hvb
                    have HXQ := hid hxq
                    have hl16 := HWIN.out.1.1
                    by_cases hlt : i < ws.length
                    · obtain ⟨gr, o, cap, u, e, hgr, -, d0, d1, b0, b1, b2⟩ := hvb.atWr i hlt
                      simp only [Value.slice.injEq] at e
                      obtain ⟨rfl, -, rfl⟩ := e
                      have hlast : lastF ws i ws.length = true → H1 (20 + ws[i].1) = ws[i].2 := fun h => by
                        rw [HG2.out]
                        exact wcur_last (fun p hp => ⟨(HWIN.out.1.2 p hp).1, by have := HWIN.out.2 p hp; omega⟩) i hlt (lastF_all hlt h)
                      obtain ⟨p1, p2, p3⟩ := HWIN.out.1.2 _ (List.getElem_mem hlt)
                      have p4 := HWIN.out.2 _ (List.getElem_mem hlt)
                      obtain ⟨x, hx⟩ : ∃ x, x = ws[i] := ⟨_, rfl⟩
                      have HXI := hid hx
                      rw [← hx] at d0 b0 b1 b2 p1 p2 p3 p4 hlast
                      clear hx
                      obtain ⟨bn, data⟩ := x
                      dsimp only at d0 d1 b0 b1 b2 p1 p2 p3 p4 hlast
                      obtain ⟨nn, hnn⟩ : ∃ nn : Nat, bn = nn := ⟨bn.toNat, by omega⟩
                      subst hnn
                      have hnn : nn < 44 := by omega
                      obtain ⟨ua, uc, rfl⟩ := b1.slice'
                      rw [p3] at d1
                      have b1' : RdB wr (.slice ua 512 uc) data := by rw [← p3]; exact b1
                      have HB1 := hid b1'
                      have HLAST := hid hlast
                      have D0 := hid d0
                      have D1 := hid d1
                      have i1 : (i : Int) < (ws.length : Int) := by omega
                      have hw1 : IntKind.i64.wrap ((i : Int) + 1) = (i : Int) + 1 := by rw [IntKind.wrap_i64]; omega
                      clear hvb hxq b1 b2 p3 b1' hlast d0 d1
                      go_wp2_with fail
                      go_loopw [30, 31] (fun u30 u31 wp => ∃ (j : Nat), u30 = .bool (lastF ws i j) ∧ u31 = .int .i64 j ∧ i < j ∧ j ≤ ws.length ∧ Ext wr wp) (fun _ u31 _ => ws.length - (intOf u31).toNat)
                      case atStart => exact ⟨i + 1, by rw [lastF_first], rfl, by omega, by omega, Ext.refl _⟩
                      case round =>
                        obtain ⟨j, rfl, rfl, hij, hj, hx5⟩ := hrel
                        have HX5 := hid hx5
                        have d0 := Ext.cellS hx5 D0.out
                        by_cases hlj : j < ws.length
                        · obtain ⟨gr', o', cap', u', e', -, -, c0, -, -, -, -⟩ := (HVB.out.ext hx5).atWr j hlj
                          simp only [Value.slice.injEq, Option.some.injEq, Addr.mk.injEq] at e'
                          obtain ⟨⟨rfl, rfl, -⟩, -, rfl⟩ := e'
                          have hnext := lastF_next ws i j hlt hlj hij
                          rw [← HXI.out] at hnext
                          dsimp only at hnext
                          generalize ws[j].1 = bj at c0 hnext
                          generalize lastF ws i j = q at hnext ⊢
                          have HN := hid hnext
                          have i1 : (j : Int) < (ws.length : Int) := by omega
                          have hw1 : IntKind.i64.wrap ((j : Int) + 1) = (j : Int) + 1 := by rw [IntKind.wrap_i64]; omega
                          clear hnext
                          by_cases hb : bj = nn <;> cases q
                          all_goals
                            go_wp2_with fail
                            go_quiet (fail)
                            go_wp2_with fail
                            refine ⟨⟨j + 1, ?_, rfl, by omega, by omega, ?_⟩, by simp only [intOf]; omega⟩
                            · rw [HN.out]; first | rfl | (simp [hb]; done) | (congr 1; rw [Bool.eq_iff_iff]; simp [hb]; done)
                            · (· repeat (first | (with_reducible assumption) | exact Ext.refl _ | refine Ext.alloc ?_ _ | refine Ext.drew ?_ | refine Ext.drewN ?_ _ | (apply Ext.snart; (with_reducible assumption))))
                        · have hie : j = ws.length := by omega
                          subst hie
                          have i1 : ¬ ((ws.length : Nat) : Int) < (ws.length : Int) := by omega
                          have d1 := Ext.cellS hx5 D1.out
                          have hsc := fun n => run_strB ((HB1.out.ext hx5).ext ((Ext.refl _).drewN n))
                          have hcut := HCUT.out.2 nn hnn
                          have g1 : (0 : Int) ≤ 512 * (nn : Int) + 512 ∧ 512 * (nn : Int) + 512 ≤ (sA.size : Int) := by have := HCUT.out.1; omega
                          have g2 : (0 : Int) ≤ 512 * (nn : Int) ∧ 512 * (nn : Int) ≤ 512 * (nn : Int) + 512 := by omega
                          have hlast := HLAST.out
                          have hw3 : IntKind.i64.wrap (512 * (nn : Int)) = 512 * (nn : Int) := by rw [IntKind.wrap_i64]; omega
                          have hw4 : IntKind.i64.wrap (512 * (nn : Int) + 512) = 512 * (nn : Int) + 512 := by rw [IntKind.wrap_i64]; omega
                          have HVB2 := hid (HVB.out.ext hx5)
                          have HXQ2 := hid (HXQ.out.trans hx5)
                          generalize lastF ws i ws.length = q at hlast ⊢
                          have HEND := hid (show ∀ W, Ext wr W → ∃ i' : Nat, Value.int .i64 ((i : Int) + 1) = .int .i64 i' ∧ i' ≤ ws.length ∧ RdS rWr W (fun _ => True) (.slice (some ⟨gr, o, none⟩) ws.length bc) ws ∧ Ext w W from
                            fun W hW => ⟨i + 1, rfl, by omega, HVB2.out.ext hW, HXQ2.out.trans hW⟩)
                          cases q
                          · clear hlast hcut hsc
                            go_wp2_with fail
                            go_quiet (fail)
                            go_wp2_with fail
                            refine ⟨HEND.out _ ?_, by simp only [intOf]; omega⟩
                            (· repeat (first | (with_reducible assumption) | exact Ext.refl _ | refine Ext.alloc ?_ _ | refine Ext.drew ?_ | refine Ext.drewN ?_ _ | (apply Ext.snart; (with_reducible assumption))))
                          · rw [hlast rfl] at hcut
                            clear hlast
                            go_wp2_with fail
                            go_quiet (fail)
                            go_wp2_with fail
                            refine ⟨HEND.out _ ?_, by simp only [intOf]; omega⟩
                            (· repeat (first | (with_reducible assumption) | exact Ext.refl _ | refine Ext.alloc ?_ _ | refine Ext.drew ?_ | refine Ext.drewN ?_ _ | (apply Ext.snart; (with_reducible assumption))))
                    · have hie : i = ws.length := by omega
                      subst hie
                      have i1 : ¬ ((ws.length : Nat) : Int) < (ws.length : Int) := by omega
                      clear hvb hxq
                      go_wp2_with fail
                      go_ret
                      exact ⟨by simp, HXQ.out⟩
end Go.Proofs.Ytgbiffpnfpdcoaa
