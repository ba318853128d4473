/- CodecReads, walked. -/
import Derived.Test.YthmpikbbkoblfaaRefF
namespace Go.Proofs.Ythmpikbbkoblfaa
open Go.RowKit
set_option linter.unusedVariables false
set_option linter.unusedSimpArgs false
attribute [local go_sem ↓] Go.wp_at_zero Go.wp_at_succ

set_option maxRecDepth 100000 in
set_option maxHeartbeats 2000000 in
theorem codecReads_walk (w : World) (v : Value) (l : List UInt8) (hv : RdB w v l) (sz : l.length ≤ 140737488351232) (c : Int) (hc : -9223372036854775808 ≤ c ∧ c ≤ 9223372036854775807) :
    Calls Try.prog 11 #[v, .int .i64 c] w fun e w' => e = .returned (.bool true) ∧ Below w.heap.size w w' := by
  have HV := hid hv
  obtain ⟨a, capb, rfl, h1, h2, h3, h4⟩ := id hv
  clear h2 h3 h4 hv
  have hfd : (frameF l).data.length ≤ l.length := by
    by_cases h : (frameF l).e = 0
    · obtain ⟨x1, x2, x3⟩ := frameF_canon l h
      have := congrArg List.length x3
      have h2 := putF_length (frameF l).kind (frameF l).data
      rw [List.length_take] at this
      omega
    · rw [(frameF_bad l h).2.2]; simp
  obtain ⟨U, hU⟩ : ∃ U, U = uintF l := ⟨_, rfl⟩
  obtain ⟨u1, u2, u3⟩ := U
  obtain ⟨T, hT⟩ : ∃ T, T = textF l c := ⟨_, rfl⟩
  obtain ⟨t1, t2, t3⟩ := T
  obtain ⟨V, hV'⟩ : ∃ V, V = u32F l := ⟨_, rfl⟩
  obtain ⟨v1, v2⟩ := V
  obtain ⟨F, hF⟩ : ∃ F, F = frameF l := ⟨_, rfl⟩
  rw [← hF] at hfd
  obtain ⟨fk, fd, fn, fe⟩ := F
  dsimp only at hfd
  have HU := hid hU
  have HT := hid hT
  have HV32 := hid hV'
  have HF := hid hF
  clear hU hT hV' hF
  have tk0 : Hid True := trivial
  go_enter Try.func11, Try.ntmps11
  go_wp2_with (first | (go_at_call 15; refine (awake_any _).mono ?_; rintro e w1 ⟨rfl, hb1⟩; have HV1 := hid (HV.out.below hb1)) | (go_at_call 16; go_must (refine (lent_any _ _ l HV1.out (by omega)).mono ?_; rintro e w2 ⟨g, cap, rfl, hg, HO2, hb2⟩; have HV2 := hid (HV1.out.below hb2); have HR2 := hid ((rdB_own HO2).head [77, 77, 77] rfl); have HH2 := hid HO2; have HB2 := hid (hb1.trans (hb2.mono hb1.size)); clear HO2 hb1 hb2)) | (go_at_call 38; go_must (refine (Uint_any _ _ l HR2.out).mono ?_; rw [← HU.out]; dsimp only; rintro e w3 ⟨rfl, rfl⟩)) | (go_at_call 39; go_must (refine (RUint_any _ _ l HV2.out).mono ?_; rw [← HU.out]; dsimp only; rintro e w3 ⟨rfl, hb3⟩; have HV3 := hid (HV2.out.below hb3); have HR3 := hid (HR2.out.below hb3); have HH3 := hid (own_belowS HH2.out hb3); have HB3 := hid (HB2.out.trans (hb3.mono HB2.out.size)); clear hb3 HV2 HR2 HH2 HB2)) | (go_at_call 40; go_must (refine (Int_any _ _ l HR3.out).mono ?_; rw [← HU.out]; dsimp only; rintro e w4 ⟨rfl, rfl⟩)) | (go_at_call 41; go_must (refine (RInt_any _ _ l HV3.out).mono ?_; rw [← HU.out]; dsimp only; rintro e w4 ⟨rfl, hb4⟩; have HV4 := hid (HV3.out.below hb4); have HR4 := hid (HR3.out.below hb4); have HH4 := hid (own_belowS HH3.out hb4); have HB4 := hid (HB3.out.trans (hb4.mono HB3.out.size)); clear hb4 HV3 HR3 HH3 HB3)) | (go_at_call 42; go_must (refine (Text_any _ _ l c hc.1 hc.2 HR4.out).mono ?_; rw [← HT.out]; dsimp only; rintro e w5 ⟨rfl, rfl⟩)) | (go_at_call 43; go_must (refine (RText_any _ _ l c hc.1 hc.2 HV4.out).mono ?_; rw [← HT.out]; dsimp only; rintro e w5 ⟨rfl, hb5⟩; have HV5 := hid (HV4.out.below hb5); have HR5 := hid (HR4.out.below hb5); have HH5 := hid (own_belowS HH4.out hb5); have HB5 := hid (HB4.out.trans (hb5.mono HB4.out.size)); clear hb5 HV4 HR4 HH4 HB4)) | (go_at_call 44; go_must (refine (U32_any _ _ l HR5.out).mono ?_; rw [← HV32.out]; dsimp only; rintro e w6 ⟨rfl, hb6⟩; have HV6 := hid (HV5.out.below hb6); have HR6 := hid (HR5.out.below hb6); have HH6 := hid (own_belowS HH5.out hb6); have HB6 := hid (HB5.out.trans (hb6.mono HB5.out.size)); clear hb6 HV5 HR5 HH5 HB5)) | (go_at_call 45; go_must (refine (RU32_any _ _ l HV6.out).mono ?_; rw [← HV32.out]; dsimp only; rintro e w7 ⟨rfl, rfl⟩)))
  refine (Frame_any _ _ l HR6.out (by omega)).mono ?_
  rw [← HF.out]
  rintro e w7 ⟨dv, rfl, hod, hb7⟩
  obtain ⟨da, dc, rfl⟩ := hod.slice
  dsimp only at hod ⊢
  have HD7 := hid (hod.low (Nat.le_refl _))
  have HV7 := hid (HV6.out.below hb7)
  have hs7 := hb7.size
  have hB6 := HB6.out.size
  have hg6 := (HH6.out.lt g rfl).2
  have HC : Hid (fd.length = 0 ∧ da = none ∨ ∃ gd, da = some ⟨gd, 0, none⟩ ∧ w6.heap.size ≤ gd ∧ gd < w7.heap.size) := by
    rcases hod.2 with ⟨e, h0⟩ | ⟨gd, cap', cur, e, hB, _⟩
    · simp only [Value.slice.injEq] at e
      exact .inl ⟨e.2.1, e.1⟩
    · simp only [Value.slice.injEq] at e
      exact .inr ⟨gd, e.1, hB, by have := (hod.lt gd (by rw [e.1]; rfl)).2; exact this⟩
  have BB7 := hid hb7
  clear hb7 hod HR6
  go_wp2_with fail
  refine (RFrame_any _ _ l (HV7.out.alloc (.cells #[.int .u8 ((fk.toNat : Nat) : Int), .slice da fd.length dc] 31)) (by omega)).mono ?_
  rw [← HF.out]
  rintro e w8 ⟨dv, rfl, hod, hb8⟩
  obtain ⟨db, dcb, rfl⟩ := hod.slice
  dsimp only at hod ⊢
  have hs8 := hb8.size
  simp only [World.alloc, Array.size_push] at hs8
  have HDb := hid hod
  have HD8 := hid (own_belowS (own_belowS HD7.out ((Below.refl _ _).alloc (Nat.le_refl _) (.cells #[.int .u8 ((fk.toNat : Nat) : Int), .slice da fd.length dc] 31))) hb8)
  have HV8 := hid ((HV7.out.alloc (.cells #[.int .u8 ((fk.toNat : Nat) : Int), .slice da fd.length dc] 31)).below hb8)
  have BB8 := hid ((BB7.out.alloc hs7 (.cells #[.int .u8 ((fk.toNat : Nat) : Int), .slice da fd.length dc] 31)).trans (hb8.mono (by simp; omega)))
  have c08 := (hb8.cell (p := ⟨w7.heap.size, 0, none⟩) (by simp)).trans (by simp [go_sem] : _ = some (.int .u8 ((fk.toNat : Nat) : Int)))
  have c18 := (hb8.cell (p := ⟨w7.heap.size, 1, none⟩) (by simp)).trans (by simp [go_sem] : _ = some (.slice da fd.length dc))
  have n1 : ¬ w7.heap.size = w8.heap.size := by omega
  have n2 : ¬ w7.heap.size = w8.heap.size + 1 := by omega
  have n3 : ¬ w7.heap.size = w8.heap.size + 1 + 1 := by omega
  have hA2 := (Below.refl w8.heap.size w8).alloc (Nat.le_refl _) (.cells #[.int .u8 ((fk.toNat : Nat) : Int), .slice db fd.length dcb] 31)
  have cA0 := (hA2.cell (p := ⟨w7.heap.size, 0, none⟩) (by simp; omega)).trans c08
  have cA1 := (hA2.cell (p := ⟨w7.heap.size, 1, none⟩) (by simp; omega)).trans c18
  clear hb8 hod HV7 BB7 HD7 hA2
  have HF1 := hid ((rdF_blk (w8.alloc (.cells #[.int .u8 ((fk.toNat : Nat) : Int), .slice db fd.length dcb] 31)) (w8.heap.size + 1) fk (.slice da fd.length dc) fd 31 ((rdB_own HD8.out).alloc _) (by simp)).alloc (.cells #[.int .u8 ((fk.toNat : Nat) : Int), .slice db fd.length dcb] 31))
  have HF2 := hid (rdF_blk ((w8.alloc (.cells #[.int .u8 ((fk.toNat : Nat) : Int), .slice db fd.length dcb] 31)).alloc (.cells #[.int .u8 ((fk.toNat : Nat) : Int), .slice da fd.length dc] 31)) (w8.heap.size + 2) fk (.slice db fd.length dcb) fd 31 (((rdB_own HDb.out).alloc _).alloc _) (by simp))
  go_wp2_with fail
  refine (SameFrames_any _ _ _ [(fk, fd)] [(fk, fd)] HF1.out HF2.out).mono ?_
  rw [decide_eq_true (rfl : [(fk, fd)] = [(fk, fd)])]
  rintro e w9 ⟨rfl, hb9⟩
  have hB3 := ((((Below.refl w8.heap.size w8).alloc (Nat.le_refl _) (.cells #[.int .u8 ((fk.toNat : Nat) : Int), .slice db fd.length dcb] 31)).alloc (by simp) (.cells #[.int .u8 ((fk.toNat : Nat) : Int), .slice da fd.length dc] 31)).alloc (by simp; omega) (.cells #[.int .u8 ((fk.toNat : Nat) : Int), .slice db fd.length dcb] 31)).trans (hb9.mono (by simp; omega))
  have hs9 := hB3.size
  have HD9 := hid (own_belowS HD8.out hB3)
  have BB9 := hid (BB8.out.trans (hB3.mono (by omega)))
  have c19 := (hB3.cell (p := ⟨w7.heap.size, 1, none⟩) (by simp; omega)).trans c18
  have C19 := hid c19
  clear cA0 cA1 hB3 hb9 HF1 HF2 HD8 HV8 BB8 c08 c18 c19 n1 n2 n3
  go_wp2_with fail
  go_loopw [36] (fun i wr => ∃ k : Nat, k ≤ fd.length ∧ i = .int .i64 k ∧ ∃ l', l'.length = fd.length ∧ OwnB wr w6.heap.size (.slice da fd.length dc) l' ∧ wr.cell? ⟨w7.heap.size, 1, none⟩ = some (.slice da fd.length dc) ∧ Below w6.heap.size w9 wr) (fun i _ => fd.length - (intOf i).toNat)
  case atStart => exact ⟨0, by omega, rfl, fd, rfl, HD9.out, C19.out, Below.refl _ _⟩
  case round =>
    obtain ⟨k, hk, rfl, l', hl', ho, c1r, hbel⟩ := hrel
    by_cases hlt : k < fd.length
    · rcases HC.out with ⟨h0, _⟩ | ⟨gd, rfl, hg1, hg2⟩
      · omega
      · have hcell := ho.cellAt k (by omega)
        have hfr := ho.frozenAt hl'.symm k
        have hset := hid (ho.set hl'.symm k 5)
        generalize l'[k] = x at hcell
        have HO := hid ho
        have hb2 := hid (hbel.setCell (p := ⟨gd, k, none⟩) hg1 (bv 5))
        have hc2 := hid ((block_ext (Below.heap_setCell wr ⟨gd, k, none⟩ (bv 5) w7.heap.size (by simp; omega)) 1).trans c1r)
        clear ho
        go_wp2_with fail
        go_roundw
        case rel => exact ⟨k + 1, by omega, by go_num, l'.set k 5, by rw [List.length_set, hl'], hset.out, hc2.out, hb2.out⟩
        case measure => simp [intOf]; omega
    · obtain rfl : k = fd.length := by omega
      have HVr := hid (HV6.out.below (BB9.out.trans hbel))
      have HHr := hid ((rdB_own HH6.out).below (BB9.out.trans hbel))
      go_wp2_with (go_at_call 18; go_must (refine (held_any _ g cap l _ HHr.out HVr.out (by omega)).mono ?_; rintro e w10 ⟨rfl, rfl⟩))
      go_ret
      exact ⟨rfl, HB6.out.trans ((BB9.out.trans hbel).mono hB6)⟩
end Go.Proofs.Ythmpikbbkoblfaa
