/- cartularylaw02.BlockdevApart, walked. -/
import Derived.Test.YtgbiffpnfpdcoaaBdM
import Derived.Test.YtgbiffpnfpdcoaaBdN
namespace Go.Proofs.Ytgbiffpnfpdcoaa
open Go.RowKit Go.Maps
set_option linter.unusedVariables false
set_option linter.unusedSimpArgs false

theorem row_rdB_pre {W : World} {k : Nat} {b : List UInt8} {t : TypeId} (h : W.heap[k]? = some (.cells (bvs b).toArray t (0, 0))) (hl : b.length = 512) (n : Nat) (hn : n ≤ 512) : RdB W (.slice (some ⟨k, 0, none⟩) n 512) (b.take n) := by
  have hlt : (b.take n).length = n := by rw [List.length_take]; omega
  refine ⟨_, _, by rw [hlt], by omega, by unfold maxLen; omega, by rw [bvs_length, hlt, Nat.mul_one], fun _ => ⟨k, 0, rfl, (Array.getElem?_eq_some_iff.1 h).1, fun j hj => ?_⟩⟩
  have hj' : j < n := by omega
  rw [cell_of_row _ _ _ _ _ _ h, Nat.zero_add, List.getElem?_toArray, ← bvs_take, List.getElem?_take, if_pos hj']
/-- a copy of a device of this call's own -/
theorem MCopy {w W : World} {g : Nat} {ρ : Nat → Option DRol} {N : Nat} {d : Dv} (hm : Mine w W g ρ N d) (hN : N ≤ 999999000) :
    Calls Try.prog 37 #[.pointer (some ⟨g, 0, none⟩)] W fun e W' => ∃ g' ρ', e = .returned (.pointer (some ⟨g', 0, none⟩)) ∧ Mine W W' g' ρ' (N + 1000) d := by
  refine (Copy_any W g ρ N d hm.dv (by omega)).mono ?_
  rintro e W' ⟨g', ρ', rfl, h1, h2, h3⟩
  exact ⟨g', ρ', rfl, h1, h2, h3⟩

set_option maxRecDepth 100000 in
set_option maxHeartbeats 4000000 in
theorem blockdevApart_any (w : World) (n : Int) (hn : -9223372036854775808 ≤ n ∧ n ≤ 9223372036854775807) (fill : Int) (hf : -9223372036854775808 ≤ fill ∧ fill ≤ 9223372036854775807) (fl : Bool) (v3 : Value) (picks : List Int) (hv : RdS rI w (fun k => k < w.heap.size) v3 picks) :
    Calls Try.prog 8 #[.int .i64 n, .int .i64 fill, .bool fl, v3] w fun e w' => e = .returned (.bool true) ∧ Ext w w' := by
  obtain ⟨va, vc, rfl, -⟩ := hv.slice
  have HV := hid hv
  have HN := hid hn
  have HF := hid hf
  have hbr := blkRow1
  clear hv hn hf
  go_enter Try.func8, Try.ntmps8
  go_wp2_with fail
  refine (awake02_any w).mono ?_
  rintro e w0 ⟨rfl, hx0⟩
  have HX0 := hid hx0
  have HV := hid ((HV.out.ext hx0).mono fun k h _ => Nat.lt_of_lt_of_le h hx0.size)
  clear hx0
  go_wp2_with fail
  refine (New64 w0).mono ?_
  rintro e w1 ⟨g, rfl, ρ, hm⟩
  have HM := hid hm
  clear hm
  go_wp2_with fail
  refine (Pick_any _ n 64 HN.out (by omega) (by omega)).mono ?_
  rintro e w' ⟨rfl, rfl⟩
  have hnn := pickF_lt n (64 : Int).toNat (by decide)
  generalize pickF n (64 : Int).toNat = nn at hnn ⊢
  have hnn : nn < 64 := hnn
  have Q0 := hid Qt.new
  go_wp2_with fail
  refine (Block_any w1 fill HF.out ⟨#[111, 110, 101]⟩).mono ?_
  rintro e w2 ⟨rfl, hr2, hx2⟩
  have HM2 := hid (HM.out.ext hx2)
  have HR2 := hid (row_rdB hr2 (blockL_len _ _))
  have HL2 := hid (fun k (hk : (Value.slice (some ⟨w1.heap.size, 0, none⟩) 512 512).ownBlock = some k) => HM.out.late hx2 (k := k) (by simp only [Value.ownBlock, Option.some.injEq] at hk; omega))
  have hb3 : (blockL fill ⟨#[111, 110, 101]⟩).take 3 = [111, 110, 101] := rfl
  have hbl := blockL_len fill ⟨#[111, 110, 101]⟩
  generalize blockL fill ⟨#[111, 110, 101]⟩ = B at HR2 hb3 hbl
  have HB3 := hid hb3
  have HBL := hid hbl
  clear hr2 hx2 HM hb3 hbl
  go_wp2_with fail
  refine (MWriteC HM2.out (by omega) Q0.out.calm nn (by rw [Q0.out.len]; omega) _ B HR2.out HL2.out HBL.out).mono ?_
  rintro e w3 ⟨rfl, ρ3, d3, hm3, c3, wr3, -, -⟩
  have HL3 := hid (wr3.len.trans Q0.out.len)
  have HP3 := hid (show d3.pend = setP (fun _ => []) nn [B] from by rw [wr3.pend]; rfl)
  have HC3 := hid (show curF d3 nn = B from by rw [wr3.cur, if_pos rfl])
  have HM3 := hid hm3
  have C3 := hid c3
  clear hm3 c3 wr3 HR2 HL2 HM2
  go_wp2_with fail
  refine (MCopy HM3.out (by omega)).mono ?_
  rintro e w4 ⟨gc, ρc, rfl, hmc⟩
  have HMC := hid hmc
  clear hmc
  go_wp2_with fail
  refine (Block_any w4 fill HF.out ⟨#[116, 119, 111]⟩).mono ?_
  rintro e w5 ⟨rfl, hr5, hx5⟩
  have HMC5 := hid (HMC.out.ext hx5)
  have HR5 := hid (row_rdB hr5 (blockL_len _ _))
  have HL5 := hid (fun k (hk : (Value.slice (some ⟨w4.heap.size, 0, none⟩) 512 512).ownBlock = some k) => HMC.out.late hx5 (k := k) (by simp only [Value.ownBlock, Option.some.injEq] at hk; omega))
  clear hr5 hx5 HMC
  go_wp2_with fail
  refine (MWriteC HMC5.out (by omega) C3.out nn (by rw [HL3.out]; omega) _ _ HR5.out HL5.out (blockL_len _ _)).mono ?_
  rintro e w6 ⟨rfl, ρ6, d6, hm6, c6, wr6, -, -⟩
  have HM6 := hid hm6
  have C6 := hid c6
  clear hm6 c6 wr6 HR5 HL5 HMC5
  have hflush : ∀ (w7 : World) (ρ7 : Nat → Option DRol) (d7 : Dv) (N7 : Nat), N7 ≤ 5000 → Mine w3 w7 gc ρ7 N7 d7 →
      Calls Try.prog 29 #[.pointer (some ⟨gc, 0, none⟩), .slice va picks.length vc] w7 fun e w8 => e = .returned (.tuple #[]) ∧ Ext w3 w8 := fun w7 ρ7 d7 N7 hN7 h7 => by
    have hx3 := HM3.out.ex
    refine (MCrash h7 (by omega) _ _ picks ((HV.out.ext hx3).ext h7.ex) (fun k hk _ => h7.old k (Nat.lt_of_lt_of_le hk hx3.size))).mono ?_
    rintro e w8 ⟨rfl, h8, -⟩
    exact ⟨rfl, h8.ex⟩
  have HFL := hid hflush
  clear hflush
  have hcr : curF (crashF d3 [1]) nn = B := by
    rw [crash_one (pendN_one (by rw [HL3.out]; omega) (by rw [HP3.out]; simp [setP]) (fun j hj => by rw [HP3.out]; simp [setP, hj])) [1], HP3.out]
    simp only [setP, if_true, List.getD_cons_zero]
    unfold keepF
    rw [pickF_small 1 _ (by omega) (by simp only [List.length_cons, List.length_nil]; omega)]
    rfl
  have HCR := hid hcr
  have hpl : pendL d3 = [(nn : Int)] := by
    unfold pendL
    rw [pendN_one (by rw [HL3.out]; omega) (by rw [HP3.out]; simp [setP]) (fun j hj => by rw [HP3.out]; simp [setP, hj])]
    rfl
  have HPL := hid hpl
  clear hcr hpl
  have htail : ∀ w8 : World, Ext w3 w8 → Mine w0 w8 g ρ3 (0 + 2) d3 := fun w8 hx => HM3.out.ext hx
  have HT := hid htail
  clear htail HM3
  cases fl
  all_goals
    go_wp2_with fail
    first
      | (refine (MFlushC HM6.out (by omega) C6.out).mono ?_
         rintro e w7 ⟨rfl, ρ7, d7, hm7, -⟩
         have HM7 := hid hm7
         clear hm7
         go_wp2_with fail
         refine (HFL.out w7 ρ7 d7 _ (by omega) HM7.out).mono ?_)
      | refine (HFL.out w6 ρ6 d6 _ (by omega) HM6.out).mono ?_
    rintro e w8 ⟨rfl, hx8⟩
    have HM8 := hid (HT.out w8 hx8)
    clear hx8
    go_wp2_with fail
    refine (MReadC HM8.out (by omega) C3.out nn (by rw [HL3.out]; omega)).mono ?_
    rintro e w9 ⟨kx, rfl, hkx, hrx, -, d9, hm9, c9, s9, hk9⟩
    rw [HC3.out] at hrx
    have HRX := hid hrx
    have HKX := hid (show ρ3 kx = none from by
      by_cases e : ρ3 kx = none
      · exact e
      · have := HM8.out.dv.rlt kx e; omega)
    have HM9 := hid hm9
    have C9 := hid c9
    have S9 := hid s9
    clear hkx hrx hm9 c9 s9 hk9
    go_wp2_with fail
    refine (MPending HM9.out (by omega)).mono ?_
    rintro e wA ⟨vp, rfl, hop, hxA⟩
    have hpl : pendL d9 = [(nn : Int)] := by rw [← HPL.out]; unfold pendL pendN; rw [S9.out.safe, S9.out.pend]
    rw [hpl] at hop
    obtain ⟨gp, op, cp, rfl, hgp, hgpS, hcp, -⟩ := hop.rd.atI 0 (by simp)
    have hgpn : ρ3 gp = none := by
      rcases hgpS with h | h
      · exact h.elim
      · have := (hop.lt gp h).1
        exact HM9.out.late hxA this
    have HCP := hid hcp
    have HGP := hid hgp
    have HGN := hid hgpn
    have HMA := hid (HM9.out.ext hxA)
    have HRXA := hid (row_ext hxA HRX.out)
    clear hop hxA hcp hgp hgpS hgpn hpl HRX HM9
    simp only [List.length_cons, List.length_nil, Nat.reduceAdd]
    go_wp2_with fail
    obtain ⟨wB, hwB⟩ : ∃ wB, wB = wA.alloc (.cells #[.int .i64 1] 3) := ⟨_, rfl⟩
    rw [← hwB]
    have hxB : Ext wA wB := by rw [hwB]; exact (Ext.refl _).alloc _
    have hrB : wB.heap[wA.heap.size]? = some (.cells #[.int .i64 1] 3 (0, 0)) := by rw [hwB]; exact heap_alloc_new _ _
    have HMB := hid (HMA.out.ext hxB)
    have HCPB := hid (hxB.cellS HCP.out)
    have HRXB := hid (row_ext hxB HRXA.out)
    have HLB := hid (HMA.out.late hxB (Nat.le_refl _))
    have HRDB := hid (rdI_one (by omega) hrB)
    have HGB := hid (show gp < wB.heap.size from Nat.lt_of_lt_of_le HGP.out hxB.size)
    clear hwB hxB hrB HCP HRXA HMA
    refine (MCrash HMB.out (by omega) _ _ [1] HRDB.out (fun k hk _ => by rw [hk]; exact HLB.out)).mono ?_
    rintro e wC ⟨rfl, hmC, hkC⟩
    have hcr : curF (crashF d9 [1]) nn = B := by
      rw [← HCR.out]
      have e1 : pendN d9 = pendN d3 := by unfold pendN; rw [S9.out.safe, S9.out.pend]
      have e2 : ∀ i, crashTo d9 [1] i = crashTo d3 [1] i := fun i => by
        induction i with
        | zero => exact S9.out.safe
        | succ i ih => rw [crashTo, crashTo, ih, e1, S9.out.pend]
      rw [crash_cur, crash_cur, e1, e2]
    obtain ⟨uC, sC, fC, lC⟩ := crash_up d9 [1]
    generalize crashF d9 [1] = dC at hmC hcr uC sC fC lC
    have HMC2 := hid hmC
    have HRXC := hid (row_past hkC HRXB.out HKX.out)
    have HCPC := hid (show wC.cell? ⟨gp, op + 0, none⟩ = some (.int .i64 nn) from (World.cell?_of_block (hkC.block gp HGN.out HGB.out)).trans HCPB.out)
    have CC := hid (up_calm uC fC)
    have LC := hid (lC.trans (S9.out.len.trans HL3.out))
    have CRC := hid hcr
    have HGC := hid (Nat.lt_of_lt_of_le HGB.out hkC.size)
    clear hmC hkC hcr uC sC fC lC HMB HCPB HRXB HRDB HLB
    go_wp2_with fail
    refine (MReadC HMC2.out (by omega) CC.out nn (by rw [LC.out]; omega)).mono ?_
    rintro e wD ⟨ky, rfl, hky, hry, -, dD, hmD, cD, sD, hkD⟩
    rw [CRC.out] at hry
    have hnx : ∀ k, ρ3 k = none → k ≠ g := fun k hk e => by
      rw [e] at hk
      obtain ⟨⟨_, _, _, h⟩, _, _⟩ := HMC2.out
      rw [h.rg] at hk; cases hk
    have hrxD := row_past1 hkD HRXC.out (hnx kx HKX.out)
    have hsx := run_strB (row_rdB hrxD HBL.out)
    have hsy := run_strB (row_rdB hry HBL.out)
    have hsp := run_strB (row_rdB_pre hrxD HBL.out 3 (by omega))
    rw [HB3.out] at hsp
    have hp0 : wD.cell? ⟨gp, op + 0, none⟩ = some (.int .i64 nn) := (World.cell?_of_block (hkD.block gp (hnx gp HGN.out) HGC.out)).trans HCPC.out
    simp only [Nat.add_zero] at hp0
    have HMD := hid hmD
    clear hmD cD sD hkD hry hky hrxD hnx
    go_wp2_with fail
    go_ret
    exact ⟨rfl, HX0.out.trans HMD.out.ex⟩
theorem blockdevApart_walk (w : World) (n : Int) (hn : -9223372036854775808 ≤ n ∧ n ≤ 9223372036854775807) (fill : Int) (hf : -9223372036854775808 ≤ fill ∧ fill ≤ 9223372036854775807) (fl : Bool) (v3 : Value) (picks : List Int) (hv : RdS rI w (fun k => k < w.heap.size) v3 picks) :
    Calls Try.prog 8 #[.int .i64 n, .int .i64 fill, .bool fl, v3] w fun e w' => e = .returned (.bool true) ∧ Below w.heap.size w w' := by
  exact (blockdevApart_any w n hn fill hf fl v3 picks hv).mono fun e w' h => ⟨h.1, h.2.below⟩
end Go.Proofs.Ytgbiffpnfpdcoaa
