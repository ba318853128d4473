/- cartularylaw02.awake and BlockdevNone, walked. -/
import Derived.Test.YtgbiffpnfpdcoaaBdL
namespace Go.Proofs.Ytgbiffpnfpdcoaa
open Go.RowKit Go.Maps
set_option linter.unusedVariables false
set_option linter.unusedSimpArgs false

theorem pickF_small (c : Int) (n : Nat) (h0 : 0 ≤ c) (h1 : c < n) : pickF c n = c.toNat := by
  unfold pickF
  rw [if_neg (by omega), Int.emod_eq_of_lt h0 h1]
theorem getrep (b : UInt8) (i : Nat) (hi : i < 512) : (List.replicate 512 b)[i]? = some b := by rw [List.getElem?_replicate, if_pos hi]

set_option maxRecDepth 100000 in
set_option maxHeartbeats 4000000 in
theorem awake02_any (w : World) : Calls Try.prog 25 #[] w fun e w' => e = .returned (.bool true) ∧ Ext w w' := by
  have hbr := blkRow1
  go_enter Try.func25, Try.ntmps25
  go_wp2_with fail
  refine (New64 w).mono ?_
  rintro e w1 ⟨g, rfl, ρ, hm⟩
  have HM := hid hm
  clear hm
  go_wp2_with fail
  refine (Block_any w1 1 (by omega) ⟨#[]⟩).mono ?_
  rintro e w2 ⟨rfl, hr2, hx2⟩
  have HM2 := hid (HM.out.ext hx2)
  have HR2 := hid (row_rdB hr2 (blockL_len _ _))
  have HL2 := hid (fun k (hk : (Value.slice (some ⟨w1.heap.size, 0, none⟩) 512 512).ownBlock = some k) => HM.out.late hx2 (k := k) (by simp only [Value.ownBlock, Option.some.injEq] at hk; omega))
  clear hr2 hx2 HM
  go_wp2_with fail
  refine (MWriteC HM2.out (by omega) Qt.new.calm 3 (by rw [Qt.new.len]; omega) _ _ HR2.out HL2.out (blockL_len _ _)).mono ?_
  rintro e w3 ⟨rfl, ρ3, d3, hm3, c3, wr3, -, -⟩
  have HM3 := hid hm3
  have C3 := hid c3
  have W3 := hid wr3
  clear hm3 c3 wr3 HR2 HL2 HM2
  go_wp2_with fail
  refine (Block_any w3 2 (by omega) ⟨#[]⟩).mono ?_
  rintro e w4 ⟨rfl, hr4, hx4⟩
  have HM4 := hid (HM3.out.ext hx4)
  have HR4 := hid (row_rdB hr4 (blockL_len _ _))
  have HL4 := hid (fun k (hk : (Value.slice (some ⟨w3.heap.size, 0, none⟩) 512 512).ownBlock = some k) => HM3.out.late hx4 (k := k) (by simp only [Value.ownBlock, Option.some.injEq] at hk; omega))
  clear hr4 hx4 HM3
  go_wp2_with fail
  refine (MWriteC HM4.out (by omega) C3.out 3 (by rw [W3.out.len, Qt.new.len]; omega) _ _ HR4.out HL4.out (blockL_len _ _)).mono ?_
  rintro e w5 ⟨rfl, ρ5, d5, hm5, c5, wr5, -, -⟩
  have hl5 : d5.safe.length = 64 := wr5.len.trans (W3.out.len.trans Qt.new.len)
  have hp5 : d5.pend = setP (fun _ => []) 3 [blockL 1 ⟨#[]⟩, blockL 2 ⟨#[]⟩] := by
    rw [wr5.pend, W3.out.pend]
    funext t
    by_cases e : t = 3
    · subst e; simp [setP, dv0]
    · simp [setP, e, dv0]
  have hc5 : curF d5 3 = List.replicate 512 2 := by
    rw [wr5.cur, if_pos rfl, blockL_empty, pickF_small 2 256 (by omega) (by omega)]; rfl
  have HM5 := hid hm5
  have C5 := hid c5
  have L5 := hid hl5
  have P5 := hid hp5
  have CU5 := hid hc5
  clear hm5 c5 wr5 hl5 hp5 hc5 HR4 HL4 HM4 C3 W3
  go_wp2_with fail
  refine (MReadC HM5.out (by omega) C5.out 3 (by rw [L5.out]; omega)).mono ?_
  rintro e w6 ⟨kb, rfl, hkb, hrb, -, d6, hm6, c6, s6, hk6⟩
  rw [CU5.out] at hrb
  have HRB := hid hrb
  have HKB := hid (show ρ5 kb = none from by
    by_cases e : ρ5 kb = none
    · exact e
    · have := HM5.out.dv.rlt kb e; omega)
  have HM6 := hid hm6
  have C6 := hid c6
  have L6 := hid (s6.len.trans L5.out)
  have P6 := hid (s6.pend.trans P5.out)
  have hpn : pendN d6 = [3] := pendN_one (by rw [L6.out]; omega) (by rw [P6.out]; simp [setP]) (fun j hj => by rw [P6.out]; simp [setP]; intro e; exact absurd e hj)
  have PN := hid hpn
  clear hkb hrb hm6 c6 s6 hk6 hpn
  go_wp2_with fail
  refine (MPending HM6.out (by omega)).mono ?_
  rintro e w7 ⟨vp, rfl, hop, hx7⟩
  have hpl : pendL d6 = [3] := by unfold pendL; rw [PN.out]; rfl
  rw [hpl] at hop
  obtain ⟨gp, op, cp, rfl, hgp, hgpS, hcp, -⟩ := hop.rd.atI 0 (by simp)
  have hgpn : ρ5 gp = none := by
    rcases hgpS with h | h
    · exact h.elim
    · have := (hop.lt gp h).1
      exact HM6.out.late hx7 this
  have HCP := hid hcp
  have HGP := hid hgp
  have HGN := hid hgpn
  have HM7 := hid (HM6.out.ext hx7)
  have HRB7 := hid (row_ext hx7 HRB.out)
  clear hop hx7 hcp hgp hgpS hgpn hpl HRB HM6
  simp only [List.length_cons, List.length_nil, Nat.reduceAdd]
  go_wp2_with fail
  obtain ⟨w8, hw8⟩ : ∃ w8, w8 = w7.alloc (.cells #[.int .i64 1] 3) := ⟨_, rfl⟩
  rw [← hw8]
  have hx8 : Ext w7 w8 := by rw [hw8]; exact (Ext.refl _).alloc _
  have hr8 : w8.heap[w7.heap.size]? = some (.cells #[.int .i64 1] 3 (0, 0)) := by rw [hw8]; exact heap_alloc_new _ _
  have HM8 := hid (HM7.out.ext hx8)
  have HCP8 := hid (hx8.cellS HCP.out)
  have HRB8 := hid (row_ext hx8 HRB7.out)
  have HL8 := hid (HM7.out.late hx8 (Nat.le_refl _))
  have HRD8 := hid (rdI_one (by omega) hr8)
  have HG8 := hid (show gp < w8.heap.size from Nat.lt_of_lt_of_le HGP.out hx8.size)
  clear hw8 hx8 hr8 HCP HRB7 HM7
  refine (MCrash HM8.out (by omega) _ _ [1] HRD8.out (fun k hk _ => by rw [hk]; exact HL8.out)).mono ?_
  rintro e w9 ⟨rfl, hm9, hk9⟩
  have hcr : curF (crashF d6 [1]) 3 = List.replicate 512 1 := by
    have := crash_one (n := 3) PN.out [1]
    rw [show ((3 : Nat) : Int) = 3 from rfl] at this
    rw [this, P6.out]
    simp only [setP, if_true, List.getD_cons_zero]
    unfold keepF
    rw [pickF_small 1 _ (by omega) (by simp only [List.length_cons, List.length_nil]; omega)]
    show blockL 1 ⟨#[]⟩ = _
    rw [blockL_empty, pickF_small 1 256 (by omega) (by omega)]; rfl
  obtain ⟨u9, s9, f9, l9⟩ := crash_up d6 [1]
  generalize crashF d6 [1] = d9 at hm9 hcr u9 s9 f9 l9
  have HM9 := hid hm9
  have HRB9 := hid (row_past hk9 HRB8.out HKB.out)
  have HCP9 := hid (show w9.cell? ⟨gp, op + 0, none⟩ = some (.int .i64 3) from (World.cell?_of_block (hk9.block gp HGN.out HG8.out)).trans HCP8.out)
  have C9 := hid (up_calm u9 f9)
  have L9 := hid (l9.trans L6.out)
  have CR9 := hid hcr
  have HG9 := hid (Nat.lt_of_lt_of_le HG8.out hk9.size)
  clear hm9 hk9 hcr u9 s9 f9 l9 HM8 HCP8 HRB8 HRD8 HL8
  go_wp2_with fail
  refine (MReadC HM9.out (by omega) C9.out 3 (by rw [L9.out]; omega)).mono ?_
  rintro e w10 ⟨kc, rfl, hkc, hrc, -, d10, hm10, c10, s10, hk10⟩
  rw [CR9.out] at hrc
  have hb9 := row_cell (row_past1 hk10 HRB9.out (fun e => by have := HKB.out; rw [e] at this; obtain ⟨⟨_, _, _, h⟩, _, _⟩ := HM9.out; rw [h.rg] at this; cases this)) 9 2 (getrep 2 9 (by omega))
  have hc9 := row_cell hrc 9 1 (getrep 1 9 (by omega))
  have hp0 : w10.cell? ⟨gp, op + 0, none⟩ = some (.int .i64 3) := (World.cell?_of_block (hk10.block gp (fun e => by have := HGN.out; rw [e] at this; obtain ⟨⟨_, _, _, h⟩, _, _⟩ := HM9.out; rw [h.rg] at this; cases this) HG9.out)).trans HCP9.out
  rw [show (((2 : UInt8).toNat : Nat) : Int) = 2 from rfl] at hb9
  rw [show (((1 : UInt8).toNat : Nat) : Int) = 1 from rfl] at hc9
  simp only [Nat.add_zero] at hp0
  have HM10 := hid hm10
  have L10 := hid (s10.len.trans L9.out)
  clear hm10 c10 s10 hk10 hrc hkc
  go_wp2_with fail
  refine (Blocks_any HM10.out.dv).mono ?_
  rintro e w11 ⟨rfl, rfl⟩
  rw [L10.out]
  go_wp2_with fail
  go_ret
  exact ⟨rfl, HM10.out.ex⟩

theorem Copy_nil (w : World) : Calls Try.prog 37 #[.pointer none] w fun e w' => e = .returned (.pointer none) ∧ w = w' := by
  go_enter Try.func37, Try.ntmps37
  go_wp2_with fail
  go_ret
  exact ⟨rfl, rfl⟩
set_option maxRecDepth 100000 in
set_option maxHeartbeats 2000000 in
theorem blockdevNone_any (w : World) (n : Int) (hn : -9223372036854775808 ≤ n ∧ n ≤ 9223372036854775807) (v1 : Value) (data : List UInt8) (hv : RdB w v1 data) (v2 : Value) (picks : List Int) (hp : RdS rI w (fun k => k < w.heap.size) v2 picks) :
    Calls Try.prog 10 #[.int .i64 n, v1, v2] w fun e w' => e = .returned (.bool true) ∧ Ext w w' := by
  obtain ⟨va, vc, rfl⟩ := hv.slice'
  obtain ⟨pa, pc, rfl, -⟩ := hp.slice
  have HV := hid hv
  clear hv hp
  go_enter Try.func10, Try.ntmps10
  go_wp2_with fail
  refine (awake02_any w).mono ?_
  rintro e w1 ⟨rfl, hx1⟩
  have HX1 := hid hx1
  have HV1 := hid (HV.out.ext hx1)
  clear hx1
  go_wp2_with fail
  refine (Read_nil w1 n).mono ?_
  rintro e w2 ⟨rfl, rfl⟩
  go_wp2_with fail
  refine (Crash_nil w1 _).mono ?_
  rintro e w2 ⟨rfl, rfl⟩
  go_wp2_with fail
  refine (Write_nil w1 n _ data HV1.out).mono ?_
  rintro e w2 ⟨rfl, rfl⟩
  go_wp2_with fail
  refine (Flush_nil w1).mono ?_
  rintro e w2 ⟨rfl, rfl⟩
  go_wp2_with fail
  refine (Fuse_nil w1 n).mono ?_
  rintro e w2 ⟨rfl, rfl⟩
  go_wp2_with fail
  refine (Blocks_nil w1).mono ?_
  rintro e w2 ⟨rfl, rfl⟩
  go_wp2_with fail
  refine (Down_nil w1).mono ?_
  rintro e w2 ⟨rfl, rfl⟩
  go_wp2_with fail
  refine (Ops_nil w1).mono ?_
  rintro e w2 ⟨rfl, rfl⟩
  go_wp2_with fail
  refine (Pending_nil w1).mono ?_
  rintro e w2 ⟨rfl, rfl⟩
  go_wp2_with fail
  refine (Copy_nil w1).mono ?_
  rintro e w2 ⟨rfl, rfl⟩
  go_wp2_with fail
  go_ret
  exact ⟨rfl, HX1.out⟩
theorem blockdevNone_walk (w : World) (n : Int) (hn : -9223372036854775808 ≤ n ∧ n ≤ 9223372036854775807) (v1 : Value) (data : List UInt8) (hv : RdB w v1 data) (_ : data.length ≤ 140737488351232) (v2 : Value) (picks : List Int) (hp : RdS rI w (fun k => k < w.heap.size) v2 picks) :
    Calls Try.prog 10 #[.int .i64 n, v1, v2] w fun e w' => e = .returned (.bool true) ∧ Below w.heap.size w w' :=
  (blockdevNone_any w n hn v1 data hv v2 picks hp).mono fun e w' h => ⟨h.1, h.2.below⟩
end Go.Proofs.Ytgbiffpnfpdcoaa
