/- CodecPrefixes, walked. -/
import Derived.Test.YthmpikbbkoblfaaPrefL
import Derived.Test.YthmpikbbkoblfaaHelp
namespace Go.Proofs.Ythmpikbbkoblfaa
open Go.RowKit
set_option linter.unusedVariables false
set_option linter.unusedSimpArgs false
attribute [local go_sem ↓] Go.wp_at_zero Go.wp_at_succ

theorem ScanEnd_eq (l : List UInt8) (w : World) : ScanEnd l w = fun e w' => ∃ v', e = .returned (.tuple #[v', .int .i64 (((scanF l).2 : Nat) : Int)]) ∧ OwnF w' w.heap.size v' (scanF l).1 ∧ Below w.heap.size w w' := rfl

set_option maxRecDepth 100000 in
set_option maxHeartbeats 2000000 in
theorem codecPrefixes_walk (w : World) (vf : Value) (fs : List (UInt8 × List UInt8)) (hf : RdF w vf fs) (c : Int) (hc : -9223372036854775808 ≤ c ∧ c ≤ 9223372036854775807) :
    Calls Try.prog 9 #[vf, .int .i64 c] w fun e w' => e = .returned (.bool true) ∧ Below w.heap.size w w' := by
  have HF := hid hf
  obtain ⟨af, capf, rfl, f1, f2, f3, f4⟩ := id hf
  clear hf f3 f4
  go_enter Try.func9, Try.ntmps9
  go_wp2_with (go_at_call 15; refine (awake_any _).mono ?_; rintro e w5 ⟨rfl, hb1⟩; have HB5 := hid hb1; have hB5 := hb1.size; clear hb1)
  have HN1 : Hid (OwnB w5 w5.heap.size (.slice none 0 0) []) := World.ownsRow_nil _ _ _ _
  have HN2 : Hid (OwnG w5 w5.heap.size (.slice none 0 0) []) := OwnG.nil _ _
  have HN3 : Hid (OwnI w5 w5.heap.size (.slice none 0 0) []) := World.ownsRow_nil _ _ _ _
  go_loopw [6, 7, 8, 9] (fun u1 u3 u2 i wr => ∃ k : Nat, k ≤ fs.length ∧ k ≤ 12 ∧ i = .int .i64 k ∧ OwnB wr w5.heap.size u1 (allF (goodF (fs.take k))) ∧ OwnG wr w5.heap.size u2 (goodF (fs.take k)) ∧ OwnI wr w5.heap.size u3 (toI (endsF (goodF (fs.take k)))) ∧ (allF (goodF (fs.take k))).length ≤ 2015 * k ∧ (goodF (fs.take k)).length ≤ k ∧ Below w5.heap.size w5 wr) (fun _ _ _ i _ => 12 - (intOf i).toNat)
  case atStart => exact ⟨0, by omega, by omega, rfl, HN1.out, HN2.out, HN3.out, by simp [allF, goodF], by simp [goodF], Below.refl _ _⟩
  case round =>
    obtain ⟨k, hk, hk40, rfl, ho1, ho2, ho3, hlen, hgl, hbel⟩ := hrel
    have HO1 := hid ho1
    have HO2 := hid ho2
    have HO3 := hid ho3
    have hbs := hbel.size
    obtain ⟨a1, c1, rfl⟩ := ho1.slice
    obtain ⟨a2, c2, rfl⟩ := ho2.ownF.slice
    obtain ⟨a3, c3, rfl⟩ := ho3.slice
    clear ho1 ho2 ho3
    by_cases hlt : k < fs.length ∧ k < 12
    · obtain ⟨hlt, hlt4⟩ := hlt
      have hsn := goodF_snoc fs k hlt
      obtain ⟨gf, of, capf', dv, e, hgf, hc0, hc1, hrd⟩ := HF.out.at k hlt
      simp only [Value.slice.injEq] at e
      obtain ⟨rfl, -, rfl⟩ := e
      have hdb : 0 < fs[k].2.length → ∀ b, dv.ownBlock = some b → b < w5.heap.size := fun hn b hb => by have := Rd.block_lt hrd hn b hb; omega
      have hBr := HB5.out.trans (hbel.mono hB5)
      have c0 := (hBr.cell (p := ⟨gf, of + k * 2, none⟩) hgf).trans hc0
      have c1 := (hBr.cell (p := ⟨gf, of + k * 2 + 1, none⟩) hgf).trans hc1
      have HRD := hid (hrd.below hBr)
      have HRD0 := hid hrd
      have HC00 := hid hc0
      have HC11 := hid hc1
      have HDB := hid hdb
      clear hdb hrd hc0 hc1
      obtain ⟨x, hx⟩ : ∃ x, x = fs[k] := ⟨_, rfl⟩
      rw [← hx] at hsn c0 HRD HDB HRD0 HC00
      obtain ⟨kb, d⟩ := x
      dsimp only at hsn c0 HRD HDB HRD0 HC00
      clear hx
      by_cases hd : d.length ≤ 2000
      · rw [if_pos hd] at hsn
        have HSN := hid hsn
        clear hsn
        generalize goodF (fs.take k) = G at *
        obtain ⟨ad, cd, rfl, -⟩ := id HRD.out
        have hpl := putF_length kb d
        have hpu := putU_len d.length
        have hpl' : (putF kb d).length ≤ 2015 := by omega
        clear hpl hpu
        have hen : (endsF G).length = G.length := endsF_len G
        have hen' : (toI (endsF G)).length ≤ 12 := by rw [toI_length]; omega
        clear hen
        have HEN := hid (endsF_snoc G (kb, d))
        obtain ⟨Z, hZ⟩ : ∃ Z, Z = allF G ++ putF kb d := ⟨_, rfl⟩
        have hzl := congrArg List.length hZ
        rw [List.length_append] at hzl
        have hzl2 : Z.length ≤ 2015 * (k + 1) := by omega
        have HZ := hid hZ
        clear hZ hzl
        go_wp2_with (first | (at_builtin; have := HT2; go_must (refine wl_appG rfl _ _ _ rfl w5.heap.size _ G rfl (HT2.out.below ((Below.refl _ _).alloc (Nat.le_refl _) (.cells #[.int .u8 ((kb.toNat : Nat) : Int), .slice ad d.length cd] 31))) _ kb (.slice ad d.length cd) d rfl HS9.out (HR9.out.alloc _) HDB.out (by omega) (by simp; omega) ?_; intro v9 w9 k1 k4 k5 k6; have HZ1 := hid (own_grown (own_belowS HT1.out ((Below.refl _ _).alloc (Nat.le_refl _) (.cells #[.int .u8 ((kb.toNat : Nat) : Int), .slice ad d.length cd] 31))) k4 (fun b hb hv => by obtain ⟨gs, -, hrow, -⟩ := HT2.out; exact rows_apart HT1.out hrow (by decide) b hb hv)); have HZ3 := hid (own_grown (own_belowS HT3.out ((Below.refl _ _).alloc (Nat.le_refl _) (.cells #[.int .u8 ((kb.toNat : Nat) : Int), .slice ad d.length cd] 31))) k4 (fun b hb hv => by obtain ⟨gs, -, hrow, -⟩ := HT2.out; exact rows_apart HT3.out hrow (by decide) b hb hv)))) | (at_builtin; have := HQ2; go_must (refine wl_appI rfl _ _ _ rfl w5.heap.size _ (toI (endsF G)) rfl (own_belowS HQ3.out ((Below.refl _ _).alloc (Nat.le_refl _) (.cells #[.int .i64 ((Z.length : Nat) : Int)] 3))) _ [((Z.length : Nat) : Int)] rfl HS8.out (by simp only [List.length_cons, List.length_nil]; omega) (by simp; omega) ?_; intro v9 w9 k1 k4 k5 k6; have HT3 := hid k1; have HT1 := hid (own_grown (own_belowS HQ1.out ((Below.refl _ _).alloc (Nat.le_refl _) (.cells #[.int .i64 ((Z.length : Nat) : Int)] 3))) k4 (fun b hb hv => rows_apart HQ1.out HQ3.out (by decide) b hb hv)); have HT2 := hid ((HQ2.out.below ((Below.refl _ _).alloc (Nat.le_refl _) (.cells #[.int .i64 ((Z.length : Nat) : Int)] 3))).grown k4 (fun b hb hv => by obtain ⟨gs, -, hrow, -⟩ := HQ2.out; exact rows_apart HQ3.out hrow (by decide) b hv hb) (fun b hb => (HQ3.out.lt b hb).1)); have hbl9 := hid ((hbl8.out.alloc (by omega) _).trans k5); have hs9 := hbl9.out.size; have c09 := (hbl9.out.cell (p := ⟨gf, of + k * 2, none⟩) (by simp; omega)).trans ((HB5.out.cell (p := ⟨gf, of + k * 2, none⟩) hgf).trans HC00.out); have c19 := (hbl9.out.cell (p := ⟨gf, of + k * 2 + 1, none⟩) (by simp; omega)).trans ((HB5.out.cell (p := ⟨gf, of + k * 2 + 1, none⟩) hgf).trans HC11.out); have HR9 := hid (HRD0.out.below (HB5.out.trans (hbl9.out.mono hB5))); have HS9 := hid (src_fr w9 w9.heap.size kb (.slice ad d.length cd) rfl rfl); obtain ⟨a9, c9, rfl⟩ := HT3.out.slice; clear k1 k4 k5 k6)) | (go_at_call 21; go_must (refine (PutFrame_any _ _ [] kb _ d (Rd.nil _ _) HRD.out hd (by simp)).mono ?_; rw [List.nil_append]; rintro e w7 ⟨v7, rfl, ho7, hb7⟩; have HO7 := hid ho7; have HP1 := hid (own_belowS HO1.out hb7); have HP2 := hid (HO2.out.below hb7); have HP3 := hid (own_belowS HO3.out hb7); have hs7 := hb7.size; have hbl7 := hid (hbel.trans (hb7.mono hbs)); clear ho7)) | (at_builtin; go_must (refine wl_appB rfl _ _ _ rfl w5.heap.size _ (allF G) rfl (appB_own HP1.out) _ (putF kb d) rfl (src_B (rdB_own HO7.out)) (by omega) (by omega) ?_; intro v8 w8 k1 k2 k3 k4 k5 k6; have HQ1 : Hid (OwnB w8 w5.heap.size v8 Z) := hid (by rw [HZ.out]; exact k3 HP1.out); have HQ2 := hid (HP2.out.grown k4 (fun b hb hv => by obtain ⟨gs, -, hrow, -⟩ := HP2.out; exact rows_apart HP1.out hrow (by decide) b hv hb) (fun b hb => (HP1.out.lt b hb).1)); have HQ3 := hid (own_grown HP3.out k4 (fun b hb hv => rows_apart HP1.out HP3.out (by decide) b hv hb)); have hbl8 := hid (hbl7.out.trans k5); have hs8 := k5.size; obtain ⟨a8, c8, rfl⟩ := HQ1.out.slice; have HS8 := hid (src_int w8 w8.heap.size ((Z.length : Nat) : Int) rfl); clear k1 k2 k3 k4 k5 k6)))
        go_roundw
        case rel =>
          refine ⟨k + 1, by omega, by omega, by go_num, ?_, by rw [HSN.out]; exact k1, ?_, ?_, by rw [HSN.out]; simp; omega, ?_⟩
          · rw [HSN.out, allF_snoc]; dsimp only; rw [← HZ.out]; exact HZ1.out
          · rw [HSN.out, HEN.out, toI_snoc]; rw [← HZ.out]; unfold OwnI; have h := HZ3.out; rw [List.length_append] at h ⊢; exact h
          · rw [HSN.out, allF_snoc]; dsimp only; rw [← HZ.out]; exact hzl2
          · exact (hbl9.out.alloc (by omega) _).trans k5
        case measure => simp [intOf]; omega
      · rw [if_neg hd] at hsn
        have HSN := hid hsn
        clear hsn
        generalize goodF (fs.take k) = G at *
        go_wp2_with (go_at_call 21; go_must (refine (PutFrame_long _ _ [] kb _ d HRD.out (by omega)).mono ?_; rintro e w7 ⟨rfl, hb7⟩))
        go_roundw
        case rel => exact ⟨k + 1, by omega, by omega, by go_num, by rw [HSN.out]; exact own_belowS HO1.out hb7, by rw [HSN.out]; exact HO2.out.below hb7, by rw [HSN.out]; exact own_belowS HO3.out hb7, by rw [HSN.out]; omega, by rw [HSN.out]; omega, hbel.trans (hb7.mono hbs)⟩
        case measure => simp [intOf]; omega
    · have hex : ¬ k < fs.length ∨ (k < fs.length ∧ ¬ k < 12) := by omega
      clear hlt
      rcases hex with hex | ⟨hex, hex2⟩
      all_goals
        have hsc := scanF_cut (goodF (fs.take k)) (goodF_small _)
        generalize goodF (fs.take k) = G at *
        have hA : (allF G).length ≤ 24180 := by omega
        have hel : (endsF G).length = G.length := endsF_len G
        generalize hAA : allF G = A at *
        have hpk := pickF_lt c (A.length + 1) (by omega)
        have hnn : ((A.length : Int) + 1).toNat = A.length + 1 := by omega
        obtain ⟨M, hM⟩ : ∃ M, M = pickF c (A.length + 1) := ⟨_, rfl⟩
        rw [← hM] at hpk
        have hsM := hsc M
        have hNle := cntE_le G M
        have hNin := cntE_in G M
        have hNout := cntE_out G M
        have hget := endsF_get G
        generalize cntE G M = N at *
        have HSC := hid hsM
        have HNN := hid hnn
        have HMM := hid hM
        have HNin := hid hNin
        have HNout := hid hNout
        have HEL := hid hel
        have HEG := hid hget
        have HCL := hid (goodF_len_take G N)
        clear hsc hsM hnn hM hNin hNout hlen hget
        have hcap : A.length ≤ c1 := by obtain ⟨_, _, e, h, _⟩ := rdB_own HO1.out; simp only [Value.slice.injEq] at e; omega
        have HR1 := hid ((rdB_own HO1.out).cut 0 M (by omega) (by omega))
        rw [List.drop_zero, Nat.sub_zero, cut0, Nat.sub_zero] at HR1
        have hlM : (A.take M).length = M := by rw [List.length_take]; omega
        have HLM := hid hlM
        have HAA := hid hAA
        clear hAA hlM
        have hz0 : (toI (endsF G)).length = G.length := by rw [toI_length]; exact hel
        have HZ0 := hid hz0
        rw [hz0] at HO3 ⊢
        clear hz0 hel
        go_wp2_with ((go_at_call 19; go_must (refine (Pick_any _ c ((A.length : Int) + 1) hc (by omega) (by omega)).mono ?_; rw [HNN.out, ← HMM.out]; rintro e w7 ⟨rfl, rfl⟩)))
        refine (Scan_any wr _ (A.take M) HR1.out (by rw [HLM.out]; omega)).mono ?_
        rw [ScanEnd_eq, HSC.out]
        rintro e w8 ⟨v8, rfl, ho8, hb8⟩
        dsimp only at ho8
        obtain ⟨a8, c8, rfl⟩ := ho8.slice
        have HO8 := hid ho8
        have HP2 := hid (HO2.out.below hb8)
        have HP3 := hid (own_belowS HO3.out hb8)
        have hs8 := hb8.size
        have hbl8 := hid (hbel.trans (hb8.mono hbs))
        clear ho8
        have hs58 : w5.heap.size ≤ w8.heap.size := by omega
        go_wp2_with fail
        go_loopw [14] (fun m wl => ∃ j : Nat, j ≤ N ∧ m = .int .i64 j ∧ Below w8.heap.size w8 wl) (fun m _ => N - (intOf m).toNat)
        case atStart => exact ⟨0, by omega, rfl, Below.refl _ _⟩
        case round =>
          obtain ⟨j, hj, rfl, hbl⟩ := hrel
          by_cases hjn : j < N
          · have hle := HNin.out j hjn
            obtain ⟨ge, rfl, hge, hce⟩ := OwnI.cellAt (own_belowS HP3.out hbl) j (by rw [HZ0.out]; omega)
            rw [toI_ends_get G j (by rw [HZ0.out]; omega) (by omega)] at hce
            generalize (allF (List.take (j + 1) G)).length = x at hce hle
            go_wp2_with fail
            go_roundw
            case rel => exact ⟨j + 1, by omega, by go_num, hbl⟩
            case measure => simp [intOf]; omega
          · obtain rfl : j = N := by omega
            clear hjn hj
            have HSF := hid (OwnF.rdF (HO8.out.below hbl))
            have HSG := hid ((HP2.out.below hbl).ownF.rdF.take j hNle)
            have hlt' : (List.take j G).length = j := by rw [List.length_take]; omega
            rw [hlt'] at HSF
            clear hlt'
            obtain ⟨L, hL⟩ : ∃ L, L = (allF (List.take j G)).length := ⟨_, rfl⟩
            have HL := hid hL
            rw [← hL]
            clear hL
            have hjc : j ≤ c2 := by
              obtain ⟨_, _, e, h, _⟩ := HSG.out
              rw [List.length_take] at e h
              simp only [Value.slice.injEq] at e
              omega
            by_cases h0 : j = 0
            · have hL0 : L = 0 := by rw [HL.out, HCL.out, if_pos h0]
              subst h0
              subst hL0
              by_cases hN : 0 < G.length
              · obtain ⟨ge, rfl, hge, hce⟩ := OwnI.cellAt (own_belowS HP3.out hbl) 0 (by rw [HZ0.out]; omega)
                have hgt := HNout.out hN
                rw [toI_ends_get G 0 (by rw [HZ0.out]; omega) (by omega)] at hce
                generalize (allF (List.take (0 + 1) G)).length = x at hce hgt
                go_wp2_with ((go_at_call 24; go_must (refine (SameFrames_any _ _ _ _ _ HSF.out HSG.out).mono ?_; rw [decide_eq_true rfl]; rintro e w9 ⟨rfl, hb9⟩)))
                go_ret
                exact ⟨rfl, HB5.out.trans ((hbl8.out.mono hB5).trans ((hbl.mono (by omega)).trans (hb9.mono (by have := hbl.size; omega))))⟩
              · have hN' : ¬ (0 : Int) < (G.length : Int) := by omega
                go_wp2_with ((go_at_call 24; go_must (refine (SameFrames_any _ _ _ _ _ HSF.out HSG.out).mono ?_; rw [decide_eq_true rfl]; rintro e w9 ⟨rfl, hb9⟩)))
                go_ret
                exact ⟨rfl, HB5.out.trans ((hbl8.out.mono hB5).trans ((hbl.mono (by omega)).trans (hb9.mono (by have := hbl.size; omega))))⟩
            · obtain ⟨ge, rfl, hge, hce⟩ := OwnI.cellAt (own_belowS HP3.out hbl) (j - 1) (by rw [HZ0.out]; omega)
              rw [toI_ends_get G (j - 1) (by rw [HZ0.out]; omega) (by omega)] at hce
              have hLL : (allF (List.take (j - 1 + 1) G)).length = L := by rw [HL.out, HCL.out, if_neg h0]
              rw [hLL] at hce
              clear hLL
              have hGp : 0 < j := by omega
              by_cases hN : j < G.length
              · obtain ⟨ge', e', hge', hce'⟩ := OwnI.cellAt (own_belowS HP3.out hbl) j (by rw [HZ0.out]; omega)
                simp only [Option.some.injEq, Addr.mk.injEq, and_true] at e'
                subst e'
                have hgt := HNout.out hN
                rw [toI_ends_get G j (by rw [HZ0.out]; omega) (by omega)] at hce'
                generalize (allF (List.take (j + 1) G)).length = x at hce' hgt
                go_wp2_with ((go_at_call 24; go_must (refine (SameFrames_any _ _ _ _ _ HSF.out HSG.out).mono ?_; rw [decide_eq_true rfl]; rintro e w9 ⟨rfl, hb9⟩)))
                go_ret
                exact ⟨rfl, HB5.out.trans ((hbl8.out.mono hB5).trans ((hbl.mono (by omega)).trans (hb9.mono (by have := hbl.size; omega))))⟩
              · have hN' : ¬ (j : Int) < (G.length : Int) := by omega
                go_wp2_with ((go_at_call 24; go_must (refine (SameFrames_any _ _ _ _ _ HSF.out HSG.out).mono ?_; rw [decide_eq_true rfl]; rintro e w9 ⟨rfl, hb9⟩)))
                go_ret
                exact ⟨rfl, HB5.out.trans ((hbl8.out.mono hB5).trans ((hbl.mono (by omega)).trans (hb9.mono (by have := hbl.size; omega))))⟩
end Go.Proofs.Ythmpikbbkoblfaa
