/- cartularylaw02.BlockdevPicks, walked. -/
import Derived.Test.YtgbiffpnfpdcoaaBdM
namespace Go.Proofs.Ytgbiffpnfpdcoaa
open Go.RowKit Go.Maps
set_option linter.unusedVariables false
set_option linter.unusedSimpArgs false

theorem u8one (W : World) (b : UInt8) (c : Int) (h : (b.toNat : Int) = c) : (convert 22 9 (.slice (some ⟨W.heap.size, 0, none⟩) 1 1)).run Try.prog (W.alloc (.cells #[.int .u8 c] 5)) = .ok (.string ⟨[b].toArray⟩) (W.alloc (.cells #[.int .u8 c] 5)) := by
  subst h
  exact run_strB (rdB_row (b := [b]) (heap_alloc_new _ _) 1 rfl (by omega))
theorem u8one_d (W : World) (b : UInt8) (c : Int) (h : (b.toNat : Int) = c) : (convert 22 9 (.slice (some ⟨W.heap.size, 0, none⟩) 1 1)).run Try.prog (W.alloc (.cells #[.int .u8 c] 5)).drew = .ok (.string ⟨[b].toArray⟩) (W.alloc (.cells #[.int .u8 c] 5)).drew := by
  subst h
  exact run_strB ((rdB_row (b := [b]) (heap_alloc_new _ _) 1 rfl (by omega) : RdB (W.alloc (.cells #[.int .u8 (b.toNat : Int)] 5)) _ _).ext (by (· repeat (first | (with_reducible assumption) | exact Ext.refl _ | refine Ext.alloc ?_ _ | refine Ext.drew ?_ | refine Ext.drewN ?_ _ | (apply Ext.snart; (with_reducible assumption))))))
/-- the writes of a round -/
def PkL (L : List Bk) (i : Nat) : Prop := L.length = i ∧ ∀ j (h : j < L.length), (L[j])[0]? = some (UInt8.ofNat (j + 1))
theorem PkL.snoc {L : List Bk} {i : Nat} (h : PkL L i) {b : Bk} (hb : b[0]? = some (UInt8.ofNat (i + 1))) : PkL (L ++ [b]) (i + 1) := by
  obtain ⟨h1, h2⟩ := h
  refine ⟨by simp [h1], fun j hj => ?_⟩
  by_cases e : j < L.length
  · rw [List.getElem_append_left e]; exact h2 j e
  · have : j = L.length := by simp at hj; omega
    subst this
    rw [List.getElem_append_right (Nat.le_refl _)]
    simp only [Nat.sub_self, List.getElem_cons_zero]
    rw [h1]; exact hb
theorem PkL.keep {L : List Bk} {i : Nat} (h : PkL L i) (hi : i ≤ 20) (p : Int) : (keepF L zb p)[0]? = some (UInt8.ofNat (pickF p (i + 1))) := by
  obtain ⟨h1, h2⟩ := h
  unfold keepF
  rw [h1]
  have hl := pickF_lt p (i + 1) (by omega)
  by_cases e : pickF p (i + 1) = 0
  · rw [if_pos e, e]; exact getrep 0 0 (by omega)
  · have hlt : pickF p (i + 1) - 1 < L.length := by omega
    rw [if_neg e, List.getD_eq_getElem?_getD, List.getElem?_eq_getElem hlt, Option.getD_some, h2 _ hlt, show pickF p (i + 1) - 1 + 1 = pickF p (i + 1) by omega]

set_option maxRecDepth 100000 in
set_option maxHeartbeats 4000000 in
theorem blockdevPicks_any (w : World) (n : Int) (hn : -9223372036854775808 ≤ n ∧ n ≤ 9223372036854775807) (v1 : Value) (fills : List Int) (hv : RdS rI w (fun k => k < w.heap.size) v1 fills) (pk : Int) (hpk : -9223372036854775808 ≤ pk ∧ pk ≤ 9223372036854775807) :
    Calls Try.prog 5 #[.int .i64 n, v1, .int .i64 pk] w fun e w' => e = .returned (.bool true) ∧ Ext w w' := by
  obtain ⟨va, vc, rfl, -⟩ := hv.slice
  have HV := hid hv
  have HN := hid hn
  have HPK := hid hpk
  clear hv hn hpk
  go_enter Try.func5, Try.ntmps5
  go_wp2_with fail
  refine (awake02_any w).mono ?_
  rintro e w0 ⟨rfl, hx0⟩
  have HX0 := hid hx0
  have HV := hid ((HV.out.ext hx0).mono fun k h _ => Nat.lt_of_lt_of_le h hx0.size)
  clear hx0
  go_wp2_with fail
  refine (New64 w0).mono ?_
  rintro e w1 ⟨g, rfl, ρ, hm⟩
  have HM := hid hm
  clear hm
  go_wp2_with fail
  refine (Pick_any _ n 64 HN.out (by omega) (by omega)).mono ?_
  rintro e w' ⟨rfl, rfl⟩
  have hnn := pickF_lt n (64 : Int).toNat (by decide)
  generalize pickF n (64 : Int).toNat = nn at hnn ⊢
  have hnn : nn < 64 := hnn
  obtain ⟨M, hM⟩ : ∃ M, M = min fills.length 20 := ⟨_, rfl⟩
  have hM1 : M ≤ fills.length := by omega
  have hM2 : M ≤ 20 := by omega
  have hmin : min (fills.length : Int) 20 = (M : Int) := by omega
  clear hM
  have Q0 := hid Qt.new
  go_wp2_with fail
  go_loopw [11] (fun u11 wr => ∃ (i : Nat) (ρ : Nat → Option DRol) (d : Dv), u11 = .int .i64 i ∧ i ≤ M ∧ Mine w0 wr g ρ (2 * i) d ∧ Calm d ∧ d.safe = List.replicate 64 zb ∧ PkL (d.pend nn) i ∧ ∀ j : Int, j ≠ nn → d.pend j = []) (fun u11 _ => M - (intOf u11).toNat)
  case atStart => exact ⟨0, ρ, dv0 64, rfl, Nat.zero_le _, HM.out, Q0.out.calm, rfl, ⟨rfl, fun j h => absurd h (Nat.not_lt_zero _)⟩, fun j _ => rfl⟩
  case round =>
    clear HM Q0
    obtain ⟨wo, rfl⟩ : ∃ wo : World, wo = wr := ⟨_, rfl⟩
    obtain ⟨i, ρ, d, rfl, hi, hm, hc, hs, hp, ho⟩ := hrel
    have HM := hid hm
    have HC := hid hc
    have HS := hid hs
    have HP := hid hp
    have HO := hid ho
    have HL := hid (show d.safe.length = 64 by rw [hs]; exact List.length_replicate)
    clear hm hc hs hp ho
    by_cases hlt : i < M
    · have i1 : (i : Int) < (M : Int) := by omega
      obtain ⟨gl, ol, cl, e, hgl, hgs, hc0, hb1, hb2⟩ := HV.out.atI i (by omega)
      simp only [Value.slice.injEq] at e
      obtain ⟨rfl, -, rfl⟩ := e
      generalize fills[i] = f at hc0 hb1 hb2
      have hc1 : wo.cell? ⟨gl, ol + i, none⟩ = some (.int .i64 f) := HM.out.ex.cellS hc0
      have hi2 : (i : Int) < (fills.length : Int) := by omega
      have hw1 : IntKind.i64.wrap ((i : Int) + 1) = (i : Int) + 1 := by rw [IntKind.wrap_i64]; omega
      have hw2 : IntKind.u8.wrap ((i : Int) + 1) = (i : Int) + 1 := by
        unfold IntKind.wrap
        simp [IntKind.min, IntKind.max, IntKind.bits, IntKind.signed]
        omega
      have hub : (((UInt8.ofNat (i + 1)).toNat : Nat) : Int) = (i : Int) + 1 := by rw [UInt8.toNat_ofNat']; omega
      have hst := u8one_d wo (UInt8.ofNat (i + 1)) ((i : Int) + 1) hub
      obtain ⟨hd, hhd⟩ : ∃ hd : ByteArray, hd = ⟨[UInt8.ofNat (i + 1)].toArray⟩ := ⟨_, rfl⟩
      rw [← hhd] at hst
      have HB0 := hid (show (blockL f hd)[0]? = some (UInt8.ofNat (i + 1)) by rw [hhd]; rfl)
      clear hhd hub
      go_wp2_with fail
      have hxd : Ext wo wo.drew := by (· repeat (first | (with_reducible assumption) | exact Ext.refl _ | refine Ext.alloc ?_ _ | refine Ext.drew ?_ | refine Ext.drewN ?_ _ | (apply Ext.snart; (with_reducible assumption))))
      have HMD := hid (HM.out.ext hxd)
      refine wp_region_T (fun w' => w'.cell? ⟨gl, ol + i, none⟩ = some (.int .i64 f)) [] (by kernel_rfl) (Ext.cellS hxd hc1) (fun hS => ?_)
      (refine wpAnyT_take (i := 0) (v := ?_) rfl (by kernel_rfl) (by kernel_rfl) (by kernel_rfl) (by kernel_rfl) (fun _ _ _ h => h) (Or.inl ⟨by rfl, ?_⟩) (by assumption) ?_; rotate_left; ((intro wS hSw; (try dsimp only at hSw); (try simp only [List.getElem_toArray, List.getElem_cons_zero, List.getElem_cons_succ]); go_simp); (try with_reducible rfl)); (try simp only [Act.put, List.getElem_toArray, List.getElem_cons_zero, List.getElem_cons_succ, List.setIfInBounds_toArray, List.set_cons_zero, List.set_cons_succ]))
      (refine wpAnyT_take (i := 1) (v := ?_) rfl (by kernel_rfl) (by kernel_rfl) (by kernel_rfl) (by kernel_rfl) (fun _ _ _ h => h) (Or.inl ⟨by rfl, ?_⟩) (by assumption) ?_; rotate_left; ((intro wS hSw; (try dsimp only at hSw); (try simp only [List.getElem_toArray, List.getElem_cons_zero, List.getElem_cons_succ]); go_simp); (try with_reducible rfl)); (try simp only [Act.put, List.getElem_toArray, List.getElem_cons_zero, List.getElem_cons_succ, List.setIfInBounds_toArray, List.set_cons_zero, List.set_cons_succ]))
      (refine wpAnyT_take (i := 2) (v := ?_) rfl (by kernel_rfl) (by kernel_rfl) (by kernel_rfl) (by kernel_rfl) (fun _ _ _ h => h) (Or.inl ⟨by rfl, ?_⟩) (by assumption) ?_; rotate_left; ((intro wS hSw; (try dsimp only at hSw); (try simp only [List.getElem_toArray, List.getElem_cons_zero, List.getElem_cons_succ]); go_simp); (try with_reducible rfl)); (try simp only [Act.put, List.getElem_toArray, List.getElem_cons_zero, List.getElem_cons_succ, List.setIfInBounds_toArray, List.set_cons_zero, List.set_cons_succ]))
      (refine wpAnyT_take (i := 3) (v := ?_) rfl (by kernel_rfl) (by kernel_rfl) (by kernel_rfl) (by kernel_rfl) (fun _ _ _ h => h) (Or.inl ⟨by rfl, ?_⟩) (by assumption) ?_; rotate_left; ((intro wS hSw; (try dsimp only at hSw); (try simp only [List.getElem_toArray, List.getElem_cons_zero, List.getElem_cons_succ]); go_simp); (try with_reducible rfl)); (try simp only [Act.put, List.getElem_toArray, List.getElem_cons_zero, List.getElem_cons_succ, List.setIfInBounds_toArray, List.set_cons_zero, List.set_cons_succ]))
      (refine wpAnyT_take (i := 4) (v := ?_) rfl (by kernel_rfl) (by kernel_rfl) (by kernel_rfl) (by kernel_rfl) (fun _ _ _ h => h) (Or.inl ⟨by rfl, ?_⟩) (by assumption) ?_; rotate_left; ((intro wS hSw; (try dsimp only at hSw); (try simp only [List.getElem_toArray, List.getElem_cons_zero, List.getElem_cons_succ]); go_simp); (try with_reducible rfl)); (try simp only [Act.put, List.getElem_toArray, List.getElem_cons_zero, List.getElem_cons_succ, List.setIfInBounds_toArray, List.set_cons_zero, List.set_cons_succ]))
      (refine wpAnyT_take (i := 5) (v := ?_) rfl (by kernel_rfl) (by kernel_rfl) (by kernel_rfl) (by kernel_rfl) (fun _ _ _ h => h) (Or.inl ⟨by rfl, ?_⟩) (by assumption) ?_; rotate_left; ((intro wS hSw; (try dsimp only at hSw); (try simp only [List.getElem_toArray, List.getElem_cons_zero, List.getElem_cons_succ]); go_simp); (try with_reducible rfl)); (try simp only [Act.put, List.getElem_toArray, List.getElem_cons_zero, List.getElem_cons_succ, List.setIfInBounds_toArray, List.set_cons_zero, List.set_cons_succ]))
      (refine wpAnyT_take (i := 6) (v := ?_) rfl (by kernel_rfl) (by kernel_rfl) (by kernel_rfl) (by kernel_rfl) (fun _ _ _ h => h) (Or.inl ⟨by rfl, ?_⟩) (by assumption) ?_; rotate_left; ((intro wS hSw; (try dsimp only at hSw); (try simp only [List.getElem_toArray, List.getElem_cons_zero, List.getElem_cons_succ]); go_simp); (try with_reducible rfl)); (try simp only [Act.put, List.getElem_toArray, List.getElem_cons_zero, List.getElem_cons_succ, List.setIfInBounds_toArray, List.set_cons_zero, List.set_cons_succ]))
      (refine wpAnyT_take (i := 7) (v := ?_) rfl (by kernel_rfl) (by kernel_rfl) (by kernel_rfl) (by kernel_rfl) (fun _ _ _ h => h) (Or.inl ⟨by rfl, ?_⟩) (by assumption) ?_; rotate_left; ((intro wS hSw; (try dsimp only at hSw); (try simp only [List.getElem_toArray, List.getElem_cons_zero, List.getElem_cons_succ]); go_simp); (try with_reducible rfl)); (try simp only [Act.put, List.getElem_toArray, List.getElem_cons_zero, List.getElem_cons_succ, List.setIfInBounds_toArray, List.set_cons_zero, List.set_cons_succ]))
      (refine wpAnyT_take (i := 8) (v := ?_) rfl (by kernel_rfl) (by kernel_rfl) (by kernel_rfl) (by kernel_rfl) (fun _ _ _ h => h) (Or.inl ⟨by rfl, ?_⟩) (by assumption) ?_; rotate_left; ((intro wS hSw; (try dsimp only at hSw); (try simp only [List.getElem_toArray, List.getElem_cons_zero, List.getElem_cons_succ]); go_simp); (try with_reducible rfl)); (try simp only [Act.put, List.getElem_toArray, List.getElem_cons_zero, List.getElem_cons_succ, List.setIfInBounds_toArray, List.set_cons_zero, List.set_cons_succ]))
      refine wpAnyT_all (rs := [9]) (by kernel_rfl) (by decide) (AllT.consS rfl (fun K hK => ?_) AllT.nil)
      go_simp
      (refine hK.out _ _ (Ext.cellS (by (· repeat (first | (with_reducible assumption) | exact Ext.refl _ | refine Ext.alloc ?_ _ | refine Ext.drew ?_ | refine Ext.drewN ?_ _ | (apply Ext.snart; (with_reducible assumption))))) hc1) (fun hS => ?_); clear hK K)
      obtain ⟨wa, hwa⟩ : ∃ wa, wa = (wo.alloc (.cells #[.int .u8 ((i : Int) + 1)] 5)).drew := ⟨_, rfl⟩
      rw [← hwa] at hS ⊢
      have hxa : Ext wo wa := by rw [hwa]; (· repeat (first | (with_reducible assumption) | exact Ext.refl _ | refine Ext.alloc ?_ _ | refine Ext.drew ?_ | refine Ext.drewN ?_ _ | (apply Ext.snart; (with_reducible assumption))))
      have hst' : (convert 22 9 (.slice (some ⟨wo.heap.size, 0, none⟩) 1 1)).run Try.prog wa = .ok (.string hd) wa := by rw [hwa]; exact hst
      clear hst hwa
      refine wpAnyT_all (rs := [10]) (by kernel_rfl) (by decide) (AllT.consS rfl (fun K hK => ?_) AllT.nil)
      go_simp
      (refine hK.out _ _ (hS) (fun hS => ?_); clear hK K)
      refine wpAnyT_all (rs := [11]) (by kernel_rfl) (by decide) (AllT.consS rfl (fun K hK => ?_) AllT.nil)
      go_simp
      go_at_call 28
      refine (Block_any wa f ⟨hb1, hb2⟩ hd).mono ?_
      rintro e w2 ⟨rfl, hr2, hx2⟩
      have hxb : Ext wo w2 := hxa.trans hx2
      have HM2 := hid (HM.out.ext hxb)
      have HR2 := hid (row_rdB hr2 (blockL_len _ _))
      have HL2 := hid (fun k (hk : (Value.slice (some ⟨wa.heap.size, 0, none⟩) 512 512).ownBlock = some k) => HM.out.late hxb (k := k) (by have := hxa.size; simp only [Value.ownBlock, Option.some.injEq] at hk; omega))
      clear hr2 hst'
      (refine hK.out _ _ (Ext.cellS hxb hc1) (fun hS => ?_); clear hK K)
      refine wpAnyT_all (rs := [12]) (by kernel_rfl) (by decide) (AllT.consS rfl (fun K hK => ?_) AllT.nil)
      go_simp
      go_at_call 27
      refine (MWriteC HM2.out (by omega) HC.out nn (by rw [HL.out]; omega) _ _ HR2.out HL2.out (blockL_len _ _)).mono ?_
      rintro e w3 ⟨rfl, ρ3, d3, hm3, c3, wr3, -, -⟩
      have HEND := hid (show ∃ (i2 : Nat) (ρ2 : Nat → Option DRol) (d2 : Dv), Value.int .i64 ((i : Int) + 1) = .int .i64 i2 ∧ i2 ≤ M ∧ Mine w0 w3 g ρ2 (2 * i2) d2 ∧ Calm d2 ∧ d2.safe = List.replicate 64 zb ∧ PkL (d2.pend nn) i2 ∧ ∀ j : Int, j ≠ nn → d2.pend j = [] from
        ⟨i + 1, ρ3, d3, rfl, by omega, hm3.mono (by omega), c3, wr3.safe.trans HS.out, by rw [wr3.pend]; simp only [setP, if_true]; exact HP.out.snoc HB0.out, fun j hj => by rw [wr3.pend]; simp only [setP, if_neg hj]; exact HO.out j hj⟩)
      have hc3 : w3.cell? ⟨gl, ol + i, none⟩ = some (.int .i64 f) := hm3.ex.cellS hc0
      clear hm3 c3 wr3
      (refine hK.out _ _ (hc3) (fun hS => ?_); clear hK K)
      refine wpAnyT_all (rs := [13]) (by kernel_rfl) (by decide) (AllT.consS rfl (fun K hK => ?_) AllT.nil)
      go_simp
      (refine hK.out _ _ (hc3) (fun hS => ?_); clear hK K)
      refine wpAnyT_done (by kernel_rfl) (NoPanic.normal ?_) _
      go_wp2_with fail
      exact ⟨HEND.out, by simp only [intOf]; omega⟩
    · have hie : i = M := by omega
      subst hie
      have i1 : ¬ (i : Int) < (i : Int) := by omega
      have hbs : ∀ W : World, (Instr.buildSlice 33 1 #[(0, .int .i64 pk)]).run Try.prog W = .ok (.slice (some ⟨W.heap.size, 0, none⟩) 1 1) (W.alloc (.cells #[.int .i64 pk] 3)) := fun W => by kernel_rfl
      go_wp2_with fail
      obtain ⟨w8, hw8⟩ : ∃ w8, w8 = wo.alloc (.cells #[.int .i64 pk] 3) := ⟨_, rfl⟩
      rw [← hw8]
      have hx8 : Ext wo w8 := by rw [hw8]; exact (Ext.refl _).alloc _
      have hr8 : w8.heap[wo.heap.size]? = some (.cells #[.int .i64 pk] 3 (0, 0)) := by rw [hw8]; exact heap_alloc_new _ _
      have HM8 := hid (HM.out.ext hx8)
      have HL8 := hid (HM.out.late hx8 (Nat.le_refl _))
      have HRD8 := hid (rdI_one HPK.out hr8)
      clear hw8 hx8 hr8 hbs
      refine (MCrash HM8.out (by omega) _ _ [pk] HRD8.out (fun k hk _ => by rw [hk]; exact HL8.out)).mono ?_
      rintro e w9 ⟨rfl, hm9, -⟩
      have hsz : d.safe.getD nn zb = zb := by rw [HS.out, List.getD_eq_getElem?_getD, List.getElem?_replicate, if_pos hnn]; rfl
      have hcr : (curF (crashF d [pk]) nn)[0]? = some (UInt8.ofNat (pickF pk (i + 1))) := by
        have hk := HP.out.keep hM2 pk
        by_cases hi0 : d.pend nn = []
        · rw [crash_none d [pk] nn hi0, hsz]
          rw [hi0] at hk
          have h1 := HP.out.1
          rw [hi0] at h1
          have h1 : i = 0 := h1.symm
          subst h1
          have : pickF pk (0 + 1) = 0 := by have := pickF_lt pk (0 + 1) (by omega); omega
          rw [this]; exact getrep 0 0 (by omega)
        · rw [crash_one (pendN_one (by rw [HL.out]; omega) hi0 HO.out) [pk], hsz]
          exact hk
      obtain ⟨u9, s9, f9, l9⟩ := crash_up d [pk]
      generalize crashF d [pk] = d9 at hm9 hcr u9 s9 f9 l9
      have HM9 := hid hm9
      have C9 := hid (up_calm u9 f9)
      have L9 := hid (l9.trans HL.out)
      have CR9 := hid hcr
      clear hm9 hcr u9 s9 f9 l9 hsz HM8 HRD8 HL8
      go_wp2_with fail
      refine (MReadC HM9.out (by omega) C9.out nn (by rw [L9.out]; omega)).mono ?_
      rintro e wA ⟨kc, rfl, hkc, hrc, -, dA, hmA, -⟩
      have hc9 := row_cell hrc 0 _ CR9.out
      have hpl := pickF_lt pk (i + 1) (by omega)
      have hub : (((UInt8.ofNat (pickF pk (i + 1))).toNat : Nat) : Int) = (pickF pk (i + 1) : Nat) := by rw [UInt8.toNat_ofNat']; omega
      rw [hub] at hc9
      have HMA := hid hmA
      obtain ⟨r, hr⟩ : ∃ r, pickF pk (i + 1) = r := ⟨_, rfl⟩
      rw [hr] at hc9 hpl
      have HR := hid hr
      have hw1 : IntKind.i64.wrap ((i : Int) + 1) = (i : Int) + 1 := by rw [IntKind.wrap_i64]; omega
      have hw3 : IntKind.i64.wrap (r : Int) = r := by rw [IntKind.wrap_i64]; omega
      clear hmA hrc hkc hub hr
      go_wp2_with fail
      have hxd : Ext wA wA.drew := by (· repeat (first | (with_reducible assumption) | exact Ext.refl _ | refine Ext.alloc ?_ _ | refine Ext.drew ?_ | refine Ext.drewN ?_ _ | (apply Ext.snart; (with_reducible assumption))))
      have HXD := hid hxd
      refine wp_region_T (fun w' => w'.cell? ⟨kc, 0, none⟩ = some (.int .u8 (r : Int))) [] (by kernel_rfl) (Ext.cellS hxd hc9) (fun hS => ?_)
      (refine wpAnyT_take (i := 0) (v := ?_) rfl (by kernel_rfl) (by kernel_rfl) (by kernel_rfl) (by kernel_rfl) (fun _ _ _ h => h) (Or.inl ⟨by rfl, ?_⟩) (by assumption) ?_; rotate_left; ((intro wS hSw; (try dsimp only at hSw); (try simp only [List.getElem_toArray, List.getElem_cons_zero, List.getElem_cons_succ]); go_simp); (try with_reducible rfl)); (try simp only [Act.put, List.getElem_toArray, List.getElem_cons_zero, List.getElem_cons_succ, List.setIfInBounds_toArray, List.set_cons_zero, List.set_cons_succ]))
      (refine wpAnyT_take (i := 1) (v := ?_) rfl (by kernel_rfl) (by kernel_rfl) (by kernel_rfl) (by kernel_rfl) (fun _ _ _ h => h) (Or.inl ⟨by rfl, ?_⟩) (by assumption) ?_; rotate_left; ((intro wS hSw; (try dsimp only at hSw); (try simp only [List.getElem_toArray, List.getElem_cons_zero, List.getElem_cons_succ]); go_simp); (try with_reducible rfl)); (try simp only [Act.put, List.getElem_toArray, List.getElem_cons_zero, List.getElem_cons_succ, List.setIfInBounds_toArray, List.set_cons_zero, List.set_cons_succ]))
      (refine wpAnyT_take (i := 2) (v := ?_) rfl (by kernel_rfl) (by kernel_rfl) (by kernel_rfl) (by kernel_rfl) (fun _ _ _ h => h) (Or.inl ⟨by rfl, ?_⟩) (by assumption) ?_; rotate_left; ((intro wS hSw; (try dsimp only at hSw); (try simp only [List.getElem_toArray, List.getElem_cons_zero, List.getElem_cons_succ]); go_simp); (try with_reducible rfl)); (try simp only [Act.put, List.getElem_toArray, List.getElem_cons_zero, List.getElem_cons_succ, List.setIfInBounds_toArray, List.set_cons_zero, List.set_cons_succ]))
      (refine wpAnyT_take (i := 3) (v := ?_) rfl (by kernel_rfl) (by kernel_rfl) (by kernel_rfl) (by kernel_rfl) (fun _ _ _ h => h) (Or.inl ⟨by rfl, ?_⟩) (by assumption) ?_; rotate_left; ((intro wS hSw; (try dsimp only at hSw); (try simp only [List.getElem_toArray, List.getElem_cons_zero, List.getElem_cons_succ]); go_simp); (try with_reducible rfl)); (try simp only [Act.put, List.getElem_toArray, List.getElem_cons_zero, List.getElem_cons_succ, List.setIfInBounds_toArray, List.set_cons_zero, List.set_cons_succ]))
      (refine wpAnyT_take (i := 4) (v := ?_) rfl (by kernel_rfl) (by kernel_rfl) (by kernel_rfl) (by kernel_rfl) (fun _ _ _ h => h) (Or.inl ⟨by rfl, ?_⟩) (by assumption) ?_; rotate_left; ((intro wS hSw; (try dsimp only at hSw); (try simp only [List.getElem_toArray, List.getElem_cons_zero, List.getElem_cons_succ]); go_simp); (try with_reducible rfl)); (try simp only [Act.put, List.getElem_toArray, List.getElem_cons_zero, List.getElem_cons_succ, List.setIfInBounds_toArray, List.set_cons_zero, List.set_cons_succ]))
      (refine wpAnyT_take (i := 5) (v := ?_) rfl (by kernel_rfl) (by kernel_rfl) (by kernel_rfl) (by kernel_rfl) (fun _ _ _ h => h) (Or.inl ⟨by rfl, ?_⟩) (by assumption) ?_; rotate_left; ((intro wS hSw; (try dsimp only at hSw); (try simp only [List.getElem_toArray, List.getElem_cons_zero, List.getElem_cons_succ]); go_simp); (try with_reducible rfl)); (try simp only [Act.put, List.getElem_toArray, List.getElem_cons_zero, List.getElem_cons_succ, List.setIfInBounds_toArray, List.set_cons_zero, List.set_cons_succ]))
      (refine wpAnyT_take (i := 6) (v := ?_) rfl (by kernel_rfl) (by kernel_rfl) (by kernel_rfl) (by kernel_rfl) (fun _ _ _ h => h) (Or.inl ⟨by rfl, ?_⟩) (by assumption) ?_; rotate_left; ((intro wS hSw; (try dsimp only at hSw); (try simp only [List.getElem_toArray, List.getElem_cons_zero, List.getElem_cons_succ]); go_simp); (try with_reducible rfl)); (try simp only [Act.put, List.getElem_toArray, List.getElem_cons_zero, List.getElem_cons_succ, List.setIfInBounds_toArray, List.set_cons_zero, List.set_cons_succ]))
      (refine wpAnyT_take (i := 7) (v := ?_) rfl (by kernel_rfl) (by kernel_rfl) (by kernel_rfl) (by kernel_rfl) (fun _ _ _ h => h) (Or.inl ⟨by rfl, ?_⟩) (by assumption) ?_; rotate_left; ((intro wS hSw; (try dsimp only at hSw); (try simp only [List.getElem_toArray, List.getElem_cons_zero, List.getElem_cons_succ]); go_simp); (try with_reducible rfl)); (try simp only [Act.put, List.getElem_toArray, List.getElem_cons_zero, List.getElem_cons_succ, List.setIfInBounds_toArray, List.set_cons_zero, List.set_cons_succ]))
      (refine wpAnyT_take (i := 8) (v := ?_) rfl (by kernel_rfl) (by kernel_rfl) (by kernel_rfl) (by kernel_rfl) (fun _ _ _ h => h) (Or.inl ⟨by rfl, ?_⟩) (by assumption) ?_; rotate_left; ((intro wS hSw; (try dsimp only at hSw); (try simp only [List.getElem_toArray, List.getElem_cons_zero, List.getElem_cons_succ]); go_simp); (try with_reducible rfl)); (try simp only [Act.put, List.getElem_toArray, List.getElem_cons_zero, List.getElem_cons_succ, List.setIfInBounds_toArray, List.set_cons_zero, List.set_cons_succ]))
      (refine wpAnyT_take (i := 9) (v := ?_) rfl (by kernel_rfl) (by kernel_rfl) (by kernel_rfl) (by kernel_rfl) (fun _ _ _ h => h) (Or.inl ⟨by rfl, ?_⟩) (by assumption) ?_; rotate_left; ((intro wS hSw; (try dsimp only at hSw); (try simp only [List.getElem_toArray, List.getElem_cons_zero, List.getElem_cons_succ]); go_simp); (try with_reducible rfl)); (try simp only [Act.put, List.getElem_toArray, List.getElem_cons_zero, List.getElem_cons_succ, List.setIfInBounds_toArray, List.set_cons_zero, List.set_cons_succ]))
      refine wpAnyT_all (rs := [10]) (by kernel_rfl) (by decide) (AllT.consS rfl (fun K hK => ?_) AllT.nil)
      go_simp
      go_at_call 26
      refine (Pick_any _ pk ((i : Int) + 1) HPK.out (by omega) (by omega)).mono ?_
      rintro e w' ⟨rfl, rfl⟩
      rw [show pickF pk ((i : Int) + 1).toNat = r by rw [show ((i : Int) + 1).toNat = i + 1 by omega]; exact HR.out]
      (refine hK.out _ _ (hS) (fun hS => ?_); clear hK K)
      refine wpAnyT_all (rs := [11]) (by kernel_rfl) (by decide) (AllT.consS rfl (fun K hK => ?_) AllT.nil)
      go_simp
      (refine hK.out _ _ (hS) (fun hS => ?_); clear hK K)
      refine wpAnyT_all (rs := [12]) (by kernel_rfl) (by decide) (AllT.consS rfl (fun K hK => ?_) AllT.nil)
      go_simp
      (refine hK.out _ _ (hS) (fun hS => ?_); clear hK K)
      refine wpAnyT_all (rs := [13]) (by kernel_rfl) (by decide) (AllT.consS rfl (fun K hK => ?_) AllT.nil)
      go_simp
      (refine hK.out _ _ (hS) (fun hS => ?_); clear hK K)
      refine wpAnyT_done (by kernel_rfl) (NoPanic.normal ?_) _
      go_wp2_with fail
      go_ret
      exact ⟨rfl, HX0.out.trans (HMA.out.ex.trans HXD.out)⟩
theorem blockdevPicks_walk (w : World) (n : Int) (hn : -9223372036854775808 ≤ n ∧ n ≤ 9223372036854775807) (v1 : Value) (fills : List Int) (hv : RdS rI w (fun k => k < w.heap.size) v1 fills) (pk : Int) (hpk : -9223372036854775808 ≤ pk ∧ pk ≤ 9223372036854775807) :
    Calls Try.prog 5 #[.int .i64 n, v1, .int .i64 pk] w fun e w' => e = .returned (.bool true) ∧ Below w.heap.size w w' :=
  (blockdevPicks_any w n hn v1 fills hv pk hpk).mono fun e w' h => ⟨h.1, h.2.below⟩
end Go.Proofs.Ytgbiffpnfpdcoaa
