/- blockdev: Crash, and the plain laws of one. -/
import Derived.Test.YtgbiffpnfpdcoaaBdH

/- blockdev.Crash, walked. -/
namespace Go.Proofs.Ytgbiffpnfpdcoaa
open Go.RowKit Go.Maps
set_option linter.unusedVariables false
set_option linter.unusedSimpArgs false

/-- what a block keeps of its pending writes -/
def keepF (l : List Bk) (s : Bk) (p : Int) : Bk := if pickF p (l.length + 1) = 0 then s else l.getD (pickF p (l.length + 1) - 1) s
/-- the blocks, when the first i of those that are pending have been picked -/
def crashTo (d : Dv) (picks : List Int) : Nat → List Bk
  | 0 => d.safe
  | i + 1 => (crashTo d picks i).set ((pendN d).getD i 0) (keepF (d.pend ((pendN d).getD i 0 : Nat)) ((crashTo d picks i).getD ((pendN d).getD i 0) zb) (picks.getD i 0))
def crashF (d : Dv) (picks : List Int) : Dv := { d with safe := crashTo d picks (pendN d).length, pend := fun _ => [], fuse := -1, down := false }
theorem crashTo_len (d : Dv) (picks : List Int) (i : Nat) : (crashTo d picks i).length = d.safe.length := by
  induction i with
  | zero => rfl
  | succ i ih => rw [crashTo, List.length_set, ih]

theorem setD_self {α : Type} {z : α} (l : List α) {n : Nat} (h : n < l.length) : l.set n (l.getD n z) = l := by
  rw [List.getD_eq_getElem?_getD, List.getElem?_eq_getElem h, Option.getD_some, List.set_getElem_self]
theorem Crash_nil (w : World) (v : Value) : Calls Try.prog 29 #[.pointer none, v] w fun e w' => e = .returned (.tuple #[]) ∧ w = w' := by
  go_enter Try.func29, Try.ntmps29
  go_wp2_with fail
  (try simp only [Exit.inBlock, Exit.then])
  refine bodyPost_ret (results_none rfl _ _ _) rfl ?_
  exact ⟨rfl, rfl⟩
def CrEnd (w : World) (g : Nat) (ρ : Nat → Option DRol) (N : Nat) (X : Dv) (e : Ending) (w' : World) : Prop :=
  e = .returned (.tuple #[]) ∧ DvAt w' g ρ N X ∧ Keep (fun k => ρ k = none) w w'

theorem tmod_pick {p : Int} {n : Nat} (hn : 0 < n) : Int.tmod (if p < 0 then -(p + 1) else p) n = (pickF p n : Int) := by
  rw [Int.tmod_eq_emod_of_nonneg (by split <;> omega), pickF_cast p n hn]

set_option maxRecDepth 100000 in
set_option maxHeartbeats 2000000 in
theorem Crash_any (w : World) (g : Nat) (ρ : Nat → Option DRol) (N : Nat) (d : Dv) (h : DvAt w g ρ N d) (hN : N ≤ 1000000000) (S : Nat → Prop) (v : Value) (picks : List Int) (hv : RdS rI w S v picks) (hS : ∀ k, S k → k < w.heap.size → ρ k = none) :
    Calls Try.prog 29 #[.pointer (some ⟨g, 0, none⟩), v] w (CrEnd w g ρ N (crashF d picks)) := by
  obtain ⟨va, vc, rfl, -⟩ := hv.slice
  obtain ⟨vs, gm, m, hp⟩ := h
  obtain ⟨gs, sc, e, -⟩ := hp.safe.atBk 0 (by have := hp.size; omega)
  subst e
  have HP := hid hp
  have HV := hid hv
  have HS := hid hS
  have hgl := hp.glt
  have hsz : d.safe.length ≤ 512 := hp.size.2
  clear hv hS hp
  go_enter Try.func29, Try.ntmps29
  go_wp2_with fail
  refine (Pending_any w g ρ N d ⟨_, gm, m, HP.out⟩ hN).mono ?_
  rintro e w1 ⟨vp, rfl, ho1, hx1⟩
  obtain ⟨pa, pc, rfl⟩ := ho1.slice
  have HO1 := hid ho1
  have HX1 := hid hx1
  have hpl := pendN_len d
  rw [pendL_len]
  clear ho1 hx1
  go_wp2_with fail
  go_loopw [14] (fun u14 wr => ∃ i : Nat, u14 = .int .i64 i ∧ i ≤ (pendN d).length ∧ DvP wr g ρ N { d with safe := crashTo d picks i } (.slice (some ⟨gs, 0, none⟩) d.safe.length sc) gm m ∧ Keep (fun k => k ≠ gs) w1 wr) (fun u14 _ => (pendN d).length - (intOf u14).toNat)
  case atStart =>
    exact ⟨0, rfl, Nat.zero_le _, HP.out.ext HX1.out, Keep.refl _ _⟩
  case round =>
    obtain ⟨i, rfl, hi, hpr, hkr⟩ := hrel
    by_cases hlt : i < (pendN d).length
    · have hlt' : (i : Int) < ((pendL d).length : Int) := by rw [pendL_len]; omega
      obtain ⟨n, hn⟩ : ∃ n : Nat, (pendN d)[i] = n := ⟨_, rfl⟩
      have hnm : n ∈ pendN d := hn ▸ List.getElem_mem hlt
      obtain ⟨hn1, hn2⟩ := pendN_mem.1 hnm
      have hkx : Keep (fun k => k ≠ gs) w1 wr := hkr
      have hgs1 : gs < w.heap.size := HP.out.lt gs (by rw [HP.out.rsafe gs rfl]; simp)
      have hor : OwnS rI 3 wr w.heap.size (fun _ => False) (.slice pa (pendL d).length pc) (pendL d) := HO1.out.kept (hkx.mono fun k hk _ e => by
        rcases hk with hk | hk
        · exact hk.elim
        · have := (HO1.out.lt k hk).1; omega)
      obtain ⟨ga, oa, ca, e, hga, -, hcell, -⟩ := hor.rd.atI i (by rw [pendL_len]; exact hlt)
      simp only [Value.slice.injEq] at e
      obtain ⟨rfl, -, rfl⟩ := e
      have hpi : (pendL d)[i]'(by rw [pendL_len]; exact hlt) = (n : Int) := by simp only [pendL, List.getElem_map, hn]
      rw [hpi] at hcell
      have hok : kInt.ok (n : Int) := ⟨by omega, by omega⟩
      have hpd : OwnS rBk 102 wr 0 (fun _ => False) ((m n).getD nilS) (d.pend n) := hpr.pend n hok
      obtain ⟨L, hL⟩ : ∃ L, (d.pend n).length = L := ⟨_, rfl⟩
      have hL0 : 0 < L := by rw [← hL]; exact List.length_pos_iff.2 hn2
      have hLN : L ≤ N := by rw [← hL]; exact hpr.long n
      obtain ⟨pr, hpr'⟩ : ∃ pr, pickF (picks.getD i 0) (L + 1) = pr := ⟨_, rfl⟩
      have hprl : pr ≤ L := by have := pickF_lt (picks.getD i 0) (L + 1) (by omega); omega
      have hnext : crashTo d picks (i + 1) = (crashTo d picks i).set n (if pr = 0 then (crashTo d picks i).getD n zb else (d.pend n).getD (pr - 1) ((crashTo d picks i).getD n zb)) := by
        have e1 : (pendN d).getD i 0 = n := by rw [List.getD_eq_getElem?_getD, List.getElem?_eq_getElem hlt, hn]; rfl
        rw [crashTo, e1]
        unfold keepF
        rw [hL, hpr']
      have hlook : (Instr.lookup 90 (.map (some gm)) (.int .i64 (n : Int)) false).run Try.prog wr = .ok ((m n).getD (.slice none 0 0)) wr := hpr.map.look Try.underlying90 (zeroBks _) (x := (n : Int)) hok
      have hmd : (m n).getD (.slice none 0 0) = (m n).getD nilS := rfl
      obtain ⟨la, lc, el⟩ := hpd.slice
      rw [hL] at el
      rw [hmd, el] at hlook
      rw [el] at hpd
      have c0 := hpr.c0
      have c1 := hpr.c1
      have hw1 : IntKind.i64.wrap ((L : Int) + 1) = (L : Int) + 1 := by rw [IntKind.wrap_i64]; omega
      have HPR := hid hpr
      have HKR := hid hkr
      have HPD := hid hpd
      have HNEXT := hid hnext
      have HLL := hid hL
      have hkw : Keep (fun k => ρ k = none) w wr := (HX1.out.keep _).trans (hkr.mono fun k hk _ e => by rw [e, HP.out.rsafe gs rfl] at hk; cases hk)
      have HKW := hid hkw
      obtain ⟨P, hP⟩ : ∃ P, picks.getD i 0 = P := ⟨_, rfl⟩
      have hPr : pickF P (L + 1) = pr := by rw [← hP]; exact hpr'
      have htm := tmod_pick (p := P) (n := L + 1) (by omega)
      rw [hPr, show ((L + 1 : Nat) : Int) = (L : Int) + 1 by omega] at htm
      have HP' := hid hP
      have hPb : -9223372036854775808 ≤ P ∧ P ≤ 9223372036854775807 := by
        rw [← hP]
        by_cases hip : i < picks.length
        · obtain ⟨_, _, _, _, _, _, _, hb⟩ := HV.out.atI i hip
          rw [List.getD_eq_getElem?_getD, List.getElem?_eq_getElem hip]; exact hb
        · rw [List.getD_eq_getElem?_getD, List.getElem?_eq_none (by omega)]; exact ⟨by decide, by decide⟩
      obtain ⟨hPb1, hPb2⟩ := hPb
      have hCell : i < picks.length → ∃ gp op, va = some ⟨gp, op, none⟩ ∧ wr.cell? ⟨gp, op + i, none⟩ = some (.int .i64 P) := fun hip => by
        obtain ⟨gp, op, cp, e, hgp, hgS, hc, -⟩ := HV.out.atI i hip
        simp only [Value.slice.injEq] at e
        refine ⟨gp, op, e.1, ?_⟩
        rw [World.cell?_of_block (hkw.block gp (HS.out gp hgS hgp) hgp), hc, ← hP, List.getD_eq_getElem?_getD, List.getElem?_eq_getElem hip]; rfl
      have hP0 : ¬ i < picks.length → P = 0 := fun hip => by
        rw [← hP, List.getD_eq_getElem?_getD, List.getElem?_eq_none (by omega)]; rfl
      clear hpr hkr hpd hnext hor HO1 hkx hkw hP hPr hpr' hmd hpi hnm hn hL el
      have h0r : ¬ (0 : Int) < ((0 : Nat) : Int) := by omega
      have hcases : (∃ gp op, va = some ⟨gp, op, none⟩ ∧ wr.cell? ⟨gp, op + i, none⟩ = some (.int .i64 P) ∧ (i : Int) < (picks.length : Int) ∧ P < 0 ∧ IntKind.i64.wrap (P + 1) = P + 1 ∧ IntKind.i64.wrap (-(P + 1)) = -(P + 1) ∧ (-(P + 1)).tmod ((L : Int) + 1) = (pr : Int)) ∨ (∃ gp op, va = some ⟨gp, op, none⟩ ∧ wr.cell? ⟨gp, op + i, none⟩ = some (.int .i64 P) ∧ (i : Int) < (picks.length : Int) ∧ ¬ P < 0 ∧ P.tmod ((L : Int) + 1) = (pr : Int)) ∨ (¬ (i : Int) < (picks.length : Int) ∧ Int.tmod 0 ((L : Int) + 1) = (pr : Int)) := by
        by_cases hip : i < picks.length
        · obtain ⟨gp, op, e1, e2⟩ := hCell hip
          by_cases hP1 : P < 0
          · rw [if_pos hP1] at htm
            exact .inl ⟨gp, op, e1, e2, by omega, hP1, by rw [IntKind.wrap_i64]; omega, by rw [IntKind.wrap_i64]; omega, htm⟩
          · rw [if_neg hP1] at htm
            exact .inr (.inl ⟨gp, op, e1, e2, by omega, hP1, htm⟩)
        · have e := hP0 hip
          subst e
          rw [if_neg (by omega)] at htm
          exact .inr (.inr ⟨by omega, htm⟩)
      clear hCell hP0 htm hPb1 hPb2
      rcases Nat.eq_zero_or_pos pr with hr0 | hr0
      · subst hr0
        rw [show ((0 : Nat) : Int) = 0 from rfl] at hcases
        have HEND := hid (show DvP wr g ρ N { d with safe := crashTo d picks (i + 1) } (.slice (some ⟨gs, 0, none⟩) d.safe.length sc) gm m by
          rw [HNEXT.out, if_pos rfl, setD_self _ (by rw [crashTo_len]; exact hn1)]; exact HPR.out)
        rcases hcases with ⟨gp, op, rfl, hcp, hip, hP1, hwa, hwb, htm⟩ | ⟨gp, op, rfl, hcp, hip, hP1, htm⟩ | ⟨hip, htm⟩
        all_goals
          go_wp2_with fail
          exact ⟨⟨i + 1, rfl, by omega, HEND.out, HKR.out⟩, by simp only [intOf]; omega⟩
      · obtain ⟨q, rfl⟩ : ∃ q, pr = q + 1 := ⟨pr - 1, by omega⟩
        rw [show ((q + 1 : Nat) : Int) = (q : Int) + 1 by omega] at hcases
        have hq2 : q < L := by omega
        have hq3 : (q : Int) < (L : Int) := by omega
        have hq4 : (0 : Int) < (q : Int) + 1 := by omega
        have hwq : IntKind.i64.wrap (q : Int) = q := by rw [IntKind.wrap_i64]; omega
        obtain ⟨gl, lc2, e, hgl, hlr, hll⟩ := HPD.out.atBk q (by rw [HLL.out]; exact hq2)
        simp only [Value.slice.injEq] at e
        obtain ⟨rfl, -, rfl⟩ := e
        have hB : (d.pend n).getD q ((crashTo d picks i).getD n zb) = (d.pend n)[q]'(by rw [HLL.out]; exact hq2) := by
          rw [List.getD_eq_getElem?_getD, List.getElem?_eq_getElem]; rfl
        have HNX := hid (show crashTo d picks (i + 1) = (crashTo d picks i).set n ((d.pend n)[q]'(by rw [HLL.out]; exact hq2)) by
          rw [HNEXT.out, if_neg (by omega), show q + 1 - 1 = q by omega, hB])
        generalize (d.pend n)[q]'(by rw [HLL.out]; exact hq2) = B at hlr hll HNX
        have HBL := hid hll
        clear hB hll HNEXT HPD
        rcases hcases with ⟨gp, op, rfl, hcp, hip, hP1, hwa, hwb, htm⟩ | ⟨gp, op, rfl, hcp, hip, hP1, htm⟩ | ⟨hip, htm⟩
        all_goals
          go_wp2_with fail
          have hxd : Ext wr wr.drew := by (· repeat (first | (with_reducible assumption) | exact Ext.refl _ | refine Ext.alloc ?_ _ | refine Ext.drew ?_ | refine Ext.drewN ?_ _ | (apply Ext.snart; (with_reducible assumption))))
          obtain ⟨hp4, hth, hk4⟩ := (HPR.out.ext hxd).setSafe n (by show _ < (crashTo d picks i).length; rw [crashTo_len]; exact hn1) HBL.out
          have HP4 := hid hp4
          have HK4 := hid hk4
          have HTH := hid hth
          clear hp4 hk4 hth
          refine wp_region_L (fun w' => w'.cell? ⟨g, 0, none⟩ = some (.slice (some ⟨gs, 0, none⟩) d.safe.length sc) ∧ w'.rangeAt gl (q * 512) (bvs B)) 11 (by kernel_rfl) ⟨Ext.cellS hxd c0, (World.rangeAt_drew _ _ _ _).2 hlr⟩ (fun hS => ?_)
          (refine wpAnyL_take (i := 0) (v := ?_) rfl (by kernel_rfl) (by kernel_rfl) (by kernel_rfl) (by kernel_rfl) (fun _ _ _ h => h) (Or.inl ⟨by rfl, ?_⟩) (by assumption) ?_; rotate_left; ((intro wS hSw; (try dsimp only at hSw); (try simp only [List.getElem_toArray, List.getElem_cons_zero, List.getElem_cons_succ]); go_simp); (try with_reducible rfl)); (try simp only [Act.put, List.getElem_toArray, List.getElem_cons_zero, List.getElem_cons_succ, List.setIfInBounds_toArray, List.set_cons_zero, List.set_cons_succ]))
          (refine wpAnyL_take (i := 1) (v := ?_) rfl (by kernel_rfl) (by kernel_rfl) (by kernel_rfl) (by kernel_rfl) (fun _ _ _ h => h) (Or.inl ⟨by rfl, ?_⟩) (by assumption) ?_; rotate_left; ((intro wS hSw; (try dsimp only at hSw); (try simp only [List.getElem_toArray, List.getElem_cons_zero, List.getElem_cons_succ]); go_simp); (try with_reducible rfl)); (try simp only [Act.put, List.getElem_toArray, List.getElem_cons_zero, List.getElem_cons_succ, List.setIfInBounds_toArray, List.set_cons_zero, List.set_cons_succ]))
          (refine wpAnyL_take (i := 2) (v := ?_) rfl (by kernel_rfl) (by kernel_rfl) (by kernel_rfl) (by kernel_rfl) (fun _ _ _ h => h) (Or.inl ⟨by rfl, ?_⟩) (by assumption) ?_; rotate_left; ((intro wS hSw; (try dsimp only at hSw); (try simp only [List.getElem_toArray, List.getElem_cons_zero, List.getElem_cons_succ]); go_simp); (try with_reducible rfl)); (try simp only [Act.put, List.getElem_toArray, List.getElem_cons_zero, List.getElem_cons_succ, List.setIfInBounds_toArray, List.set_cons_zero, List.set_cons_succ]))
          (refine wpAnyL_take (i := 3) (v := ?_) rfl (by kernel_rfl) (by kernel_rfl) (by kernel_rfl) (by kernel_rfl) (fun _ _ _ h => h) (Or.inl ⟨by rfl, ?_⟩) (by assumption) ?_; rotate_left; ((intro wS hSw; (try dsimp only at hSw); (try simp only [List.getElem_toArray, List.getElem_cons_zero, List.getElem_cons_succ]); go_simp); (try with_reducible rfl)); (try simp only [Act.put, List.getElem_toArray, List.getElem_cons_zero, List.getElem_cons_succ, List.setIfInBounds_toArray, List.set_cons_zero, List.set_cons_succ]))
          (refine wpAnyL_take (i := 4) (v := ?_) rfl (by kernel_rfl) (by kernel_rfl) (by kernel_rfl) (by kernel_rfl) (fun _ _ _ h => h) (Or.inl ⟨by rfl, ?_⟩) (by assumption) ?_; rotate_left; ((intro wS hSw; (try dsimp only at hSw); (try simp only [List.getElem_toArray, List.getElem_cons_zero, List.getElem_cons_succ]); go_simp); (try with_reducible rfl)); (try simp only [Act.put, List.getElem_toArray, List.getElem_cons_zero, List.getElem_cons_succ, List.setIfInBounds_toArray, List.set_cons_zero, List.set_cons_succ]))
          (refine wpAnyL_take (i := 5) (v := ?_) rfl (by kernel_rfl) (by kernel_rfl) (by kernel_rfl) (by kernel_rfl) (fun _ _ _ h => h) (Or.inl ⟨by rfl, ?_⟩) (by assumption) ?_; rotate_left; ((intro wS hSw; (try dsimp only at hSw); (try simp only [List.getElem_toArray, List.getElem_cons_zero, List.getElem_cons_succ]); go_simp); (try with_reducible rfl)); (try simp only [Act.put, List.getElem_toArray, List.getElem_cons_zero, List.getElem_cons_succ, List.setIfInBounds_toArray, List.set_cons_zero, List.set_cons_succ]))
          (refine wpAnyL_take (i := 6) (v := ?_) rfl (by kernel_rfl) (by kernel_rfl) (by kernel_rfl) (by kernel_rfl) (fun _ _ _ h => h) (Or.inl ⟨by rfl, ?_⟩) (by assumption) ?_; rotate_left; ((intro wS hSw; (try dsimp only at hSw); (try simp only [List.getElem_toArray, List.getElem_cons_zero, List.getElem_cons_succ]); go_simp); (try with_reducible rfl)); (try simp only [Act.put, List.getElem_toArray, List.getElem_cons_zero, List.getElem_cons_succ, List.setIfInBounds_toArray, List.set_cons_zero, List.set_cons_succ]))
          (refine wpAnyL_take (i := 7) (v := ?_) rfl (by kernel_rfl) (by kernel_rfl) (by kernel_rfl) (by kernel_rfl) (fun _ _ _ h => h) (Or.inl ⟨by rfl, ?_⟩) (by assumption) ?_; rotate_left; ((intro wS hSw; (try dsimp only at hSw); (try simp only [List.getElem_toArray, List.getElem_cons_zero, List.getElem_cons_succ]); go_simp); (try with_reducible rfl)); (try simp only [Act.put, List.getElem_toArray, List.getElem_cons_zero, List.getElem_cons_succ, List.setIfInBounds_toArray, List.set_cons_zero, List.set_cons_succ]))
          (refine wpAnyL_take (i := 8) (v := ?_) rfl (by kernel_rfl) (by kernel_rfl) (by kernel_rfl) (by kernel_rfl) (fun _ _ _ h => h) (Or.inl ⟨by rfl, ?_⟩) (by assumption) ?_; rotate_left; ((intro wS hSw; (try dsimp only at hSw); (try simp only [List.getElem_toArray, List.getElem_cons_zero, List.getElem_cons_succ]); go_simp); (try with_reducible rfl)); (try simp only [Act.put, List.getElem_toArray, List.getElem_cons_zero, List.getElem_cons_succ, List.setIfInBounds_toArray, List.set_cons_zero, List.set_cons_succ]))
          refine wpAnyL_take (i := 9) (v := .agg (bvs B).toArray) rfl (by kernel_rfl) (by kernel_rfl) (by kernel_rfl) (by kernel_rfl) (fun _ _ _ h => h) (yieldsIf_load_mid (by rfl) 102 _ rfl gl (q * 512) rfl (bvs B) _ (fun W hW => hW.2) Try.underlying102 rfl (by rw [infoArr]; simp [bvs, HBL.out])) (by assumption) ?_
          try simp only [Act.put, List.getElem_toArray, List.getElem_cons_zero, List.getElem_cons_succ, List.setIfInBounds_toArray, List.set_cons_zero, List.set_cons_succ]
          (refine wpAnyL_take (i := 10) (v := ?_) rfl (by kernel_rfl) (by kernel_rfl) (by kernel_rfl) (by kernel_rfl) (fun _ _ _ h => h) (Or.inl ⟨by rfl, ?_⟩) (by assumption) ?_; rotate_left; ((intro wS hSw; (try dsimp only at hSw); (try simp only [List.getElem_toArray, List.getElem_cons_zero, List.getElem_cons_succ]); go_simp); (try with_reducible rfl)); (try simp only [Act.put, List.getElem_toArray, List.getElem_cons_zero, List.getElem_cons_succ, List.setIfInBounds_toArray, List.set_cons_zero, List.set_cons_succ]))
          (refine wpAnyL_one (i := 11) (by kernel_rfl) rfl (fun K hK => ?_))
          refine step_storeBk rfl _ _ rfl gs n B rfl rfl HBL.out HTH.out ?_
          (refine hK.out _ _ (fun h => absurd rfl h) (fun _ => ?_); clear hK K; refine wpAnyL_done (by kernel_rfl) ?_ _)
          refine NoPanic.normal ?_
          go_wp2_with fail
          refine ⟨⟨i + 1, rfl, by omega, ?_, (HKR.out.trans (hxd.keep _)).trans HK4.out⟩, by simp only [intOf]; omega⟩
          rw [HNX.out]
          exact HP4.out
    · have hie : i = (pendN d).length := by omega
      subst hie
      have hlt' : ¬ (((pendN d).length : Nat) : Int) < ((pendL d).length : Int) := by rw [pendL_len]; omega
      have c1 := hpr.c1
      obtain ⟨w3, hclr, hm3, hk3, hs3⟩ := hpr.map.clear Try.underlying90 0
      have hp3 := hpr.cleared hm3 hk3
      have c2 := hp3.c2
      have c3 := hp3.c3
      have f2 := blk_fro hp3.head 2
      have f3 := blk_fro hp3.head 3
      have HP3 := hid hp3
      have HK3 := hid hk3
      have HKR := hid hkr
      have HPR := hid hpr
      have q3 := blk_set (o := 3) (blk_set (o := 2) hp3.head (.int .i64 (-1))) (.bool false)
      have HQ3 := hid q3
      clear q3 hp3 hk3 hkr hpr hm3 hs3 hlt
      go_wp2_with fail
      go_end0
      have hkh : Keep (fun k => k ≠ g) w3 ((w3.setCell ⟨g, 2, none⟩ (.int .i64 (-1))).setCell ⟨g, 3, none⟩ (.bool false)) := ((Keep.refl _ _).setCell (by simp) _).setCell (by simp) _
      refine ⟨rfl, ⟨_, gm, _, HP3.out.head' hkh (by simp) (crashF d picks) N (Nat.le_refl _) rfl rfl ⟨by show (-1 : Int) ≤ -1; omega, by show (-1 : Int) ≤ 9223372036854775807; omega⟩ HP3.out.ops (HQ3.out.trans rfl)⟩, ?_⟩
      have r1 := HP3.out.rg
      have r2 := HPR.out.rm
      have r3 := HPR.out.rsafe gs rfl
      refine (((HX1.out.keep _).trans (HKR.out.mono fun k hk _ e => ?_)).trans (HK3.out.mono fun k hk _ e => ?_)).trans (hkh.mono fun k hk _ e => ?_)
      · rw [e, r3] at hk; cases hk
      · rw [e, r2] at hk; cases hk
      · rw [e, r1] at hk; cases hk
end Go.Proofs.Ytgbiffpnfpdcoaa

/- blockdev: the plain laws of a crash. -/
namespace Go.Proofs.Ytgbiffpnfpdcoaa
open Go.RowKit
set_option linter.unusedVariables false
set_option linter.unusedSimpArgs false

theorem pendN_inj {d : Dv} {i j : Nat} (hi : i < (pendN d).length) (hj : j < (pendN d).length) (h : (pendN d)[i] = (pendN d)[j]) : i = j := by
  rcases Nat.lt_trichotomy i j with e | e | e
  · have := List.pairwise_iff_getElem.1 (pendN_lt d) i j hi hj e; omega
  · exact e
  · have := List.pairwise_iff_getElem.1 (pendN_lt d) j i hj hi e; omega
theorem crashTo_at (d : Dv) (picks : List Int) : ∀ (i k : Nat), i ≤ (pendN d).length → (crashTo d picks i).getD k zb = (d.safe.getD k zb) ∧ (∀ j, (hj : j < (pendN d).length) → j < i → (pendN d)[j] ≠ k) ∨ ∃ j, ∃ hj : j < (pendN d).length, j < i ∧ (pendN d)[j] = k ∧ (crashTo d picks i).getD k zb = keepF (d.pend k) (d.safe.getD k zb) (picks.getD j 0) := by
  intro i
  induction i with
  | zero => intro k _; left; exact ⟨rfl, fun j _ h => absurd h (Nat.not_lt_zero _)⟩
  | succ i ih =>
    intro k hi
    have hi' : i < (pendN d).length := hi
    obtain ⟨n, hn⟩ : ∃ n, (pendN d)[i] = n := ⟨_, rfl⟩
    have e1 : (pendN d).getD i 0 = n := by rw [List.getD_eq_getElem?_getD, List.getElem?_eq_getElem hi', hn]; rfl
    have hnl : n < d.safe.length := (pendN_mem.1 (hn ▸ List.getElem_mem hi')).1
    rw [crashTo, e1]
    by_cases hk : k = n
    · subst hk
      right
      refine ⟨i, hi', Nat.lt_succ_self _, hn, ?_⟩
      rw [List.getD_eq_getElem?_getD, List.getElem?_set_self (by rw [crashTo_len]; exact hnl), Option.getD_some]
      rcases ih k (by omega) with ⟨e, _⟩ | ⟨j, hj, hlt, he, _⟩
      · rw [e]
      · exact absurd (pendN_inj hj hi' (he.trans hn.symm)) (by omega)
    · have e2 : ∀ b, ((crashTo d picks i).set n b).getD k zb = (crashTo d picks i).getD k zb := fun b => by
        rw [List.getD_eq_getElem?_getD, List.getElem?_set_ne (fun e => hk e.symm), ← List.getD_eq_getElem?_getD]
      rw [e2]
      rcases ih k (by omega) with ⟨e, h⟩ | ⟨j, hj, hlt, he, h⟩
      · left
        refine ⟨e, fun j hj hlt => ?_⟩
        by_cases hji : j = i
        · subst hji; intro e'; exact hk (e'.symm.trans hn)
        · exact h j hj (by omega)
      · right; exact ⟨j, hj, by omega, he, h⟩
theorem crash_cur (d : Dv) (picks : List Int) (k : Nat) : curF (crashF d picks) (k : Int) = (crashTo d picks (pendN d).length).getD k zb := by
  unfold curF crashF
  simp
/-- a block that has nothing pending stays -/
theorem crash_none (d : Dv) (picks : List Int) (k : Nat) (h : d.pend (k : Int) = []) : curF (crashF d picks) (k : Int) = d.safe.getD k zb := by
  rw [crash_cur]
  rcases crashTo_at d picks _ k (Nat.le_refl _) with ⟨e, _⟩ | ⟨j, hj, _, he, _⟩
  · exact e
  · exact absurd h (pendN_mem.1 (he ▸ List.getElem_mem hj)).2
theorem crash_at (d : Dv) (picks : List Int) (j : Nat) (hj : j < (pendN d).length) : curF (crashF d picks) (((pendN d)[j] : Nat) : Int) = keepF (d.pend ((pendN d)[j] : Nat)) (d.safe.getD (pendN d)[j] zb) (picks.getD j 0) := by
  rw [crash_cur]
  rcases crashTo_at d picks _ (pendN d)[j] (Nat.le_refl _) with ⟨_, h⟩ | ⟨i, hi, _, he, h⟩
  · exact absurd rfl (h j hj hj)
  · rw [h, pendN_inj hi hj he]
theorem keepF_mem (l : List Bk) (s : Bk) (p : Int) : keepF l s p = s ∨ keepF l s p ∈ l := by
  unfold keepF
  have := pickF_lt p (l.length + 1) (by omega)
  split
  · exact .inl rfl
  · right
    rw [List.getD_eq_getElem?_getD, List.getElem?_eq_getElem (by omega)]
    exact List.getElem_mem _
/-- each block keeps what it was at the last flush, or one of the writes behind that -/
theorem crash_mem (d : Dv) (picks : List Int) (k : Nat) : curF (crashF d picks) (k : Int) = d.safe.getD k zb ∨ curF (crashF d picks) (k : Int) ∈ d.pend (k : Int) := by
  rw [crash_cur]
  rcases crashTo_at d picks _ k (Nat.le_refl _) with ⟨e, _⟩ | ⟨j, hj, _, he, h⟩
  · exact .inl e
  · rw [h]; exact keepF_mem _ _ _
theorem crash_len (d : Dv) (picks : List Int) : (crashF d picks).safe.length = d.safe.length := crashTo_len _ _ _
end Go.Proofs.Ytgbiffpnfpdcoaa
