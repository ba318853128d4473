/- AllocFirst, walked. -/
import Derived.Test.YtbpcgfplokkfpaaAlR
import Derived.Test.YtbpcgfplokkfpaaAlQ
import Derived.Test.YtbpcgfplokkfpaaRegT
namespace Go.Proofs.Ytbpcgfplokkfpaa
open Go.RowKit Go.Shelf
set_option linter.unusedVariables false
set_option linter.unusedSimpArgs false
attribute [local go_sem] Oper.semAt_some

theorem MapAt.keepB {T : Nat → Prop} {w w' : World} {g : Nat} {now last : List Bool} (h : MapAt T w g now last) (hk : Keep (fun k => k < w.heap.size) w w') : MapAt T w' g now last := by
  obtain ⟨vn, vl, h1, h2, h3, h4, h5, h6, h7, h8⟩ := h
  have hg := (Array.getElem?_eq_some_iff.1 h1).1
  exact ⟨vn, vl, (hk.block g hg hg).trans h1, h2.kept (hk.mono fun k hk' _ => by rcases hk' with h | h; exact h.elim; exact (h2.lt k h).2), h3.kept (hk.mono fun k hk' _ => by rcases hk' with h | h; exact h.elim; exact (h3.lt k h).2), h4, h5, h6, h7, h8⟩

set_option maxRecDepth 100000 in
set_option maxHeartbeats 8000000 in
theorem allocFirst_walk (w : World) (a0 : Int) (h0 : -9223372036854775808 ≤ a0 ∧ a0 ≤ 9223372036854775807) (v : Value) (zs : List Call5) (rd : RdS rCall5 w (fun k => k < w.heap.size) v zs) (a2 : Int) (h2 : -9223372036854775808 ≤ a2 ∧ a2 ≤ 9223372036854775807) :
    Calls Try.prog 5 #[.int .i64 a0, v, .int .i64 a2] w fun e w' => e = .returned (.bool true) ∧ Below w.heap.size w w' := by
  have HV := hid rd
  obtain ⟨av, cv, rfl, hc1, hc2⟩ := rd.slice
  clear rd
  refine (callsIn_wide (n := 9)).1 (callsIn_of_wp_marks Try.func5 rfl trivial ?_ rfl)
  simp only [Try.ntmps5, List.size_toArray, List.length_cons, List.length_nil, Nat.reduceAdd, Nat.reduceSub, Array.replicate_succ, Array.replicate_zero, List.push_toArray, List.append_toArray, List.nil_append, List.cons_append]
  refine wpIn_wide.2 ?_
  go_wp2_with fail
  obtain ⟨B6, hB6⟩ : ∃ B6, B6 = w.heap.size := ⟨_, rfl⟩
  have hw6 := heap_alloc_new w (.cells #[.bool false] 4)
  have hxw : Ext w (w.alloc (.cells #[.bool false] 4)) := (Ext.refl w).alloc _
  rw [← hB6] at hw6 ⊢
  generalize (w.alloc (.cells #[.bool false] 4)) = wb at hw6 hxw ⊢
  have HB6 := hid hB6
  have HW6 := hid hw6
  have HXW := hid hxw
  clear hB6 hw6 hxw
  refine (awake5_any _).mono ?_
  rintro e w1 ⟨rfl, hx1⟩
  go_wp2_with fail
  refine (Pick_any _ a0 513 h0 (by omega) (by omega)).mono ?_
  rintro e w1' ⟨rfl, rfl⟩
  have hN := pickF_lt a0 (513 : Int).toNat (by decide)
  generalize pickF a0 (513 : Int).toNat = N at hN ⊢
  have hN' : N ≤ 512 := by have : (513 : Int).toNat = 513 := rfl; omega
  clear hN
  go_wp2_with fail
  refine (NewM_ok w1 N hN').mono ?_
  rintro e w2 ⟨g, rfl, hm, hx2⟩
  have HS := hid (show MI wb w2 _ g (List.replicate N false) (List.replicate N false) from ⟨hm, fun k hk => Nat.le_trans hx1.size hk.1, hx1.trans hx2⟩)
  clear hm hx1 hx2
  go_wp2_with fail
  go_loopw [9] (fun u9 wr => ∃ (i : Nat) (T : Nat → Prop) (now last : List Bool), u9 = .int .i64 i ∧ i ≤ zs.length ∧ i ≤ 40 ∧ now.length = N ∧ MI wb wr T g now last) (fun u9 _ => 40 - (intOf u9).toNat)
  case atStart => exact ⟨0, _, _, _, rfl, by omega, by omega, by simp, HS.out⟩
  case round =>
    clear HS
    obtain ⟨wo, rfl⟩ : ∃ wo : World, wo = wr := ⟨_, rfl⟩
    obtain ⟨i, T, now, last, rfl, hi, hi60, rfl, ha⟩ := hrel
    have HA := hid ha
    clear ha
    by_cases hlt : i < zs.length ∧ i < 40
    · obtain ⟨hlt, hlt2⟩ := hlt
      obtain ⟨gl, ol, cl, lv, e, hgl, hgs, d0, d1, d2, hz0, hz1, hrl⟩ := HV.out.atCall5 i hlt
      simp only [Value.slice.injEq] at e
      obtain ⟨rfl, -, rfl⟩ := e
      generalize zs[i] = z at d0 d1 d2 hz0 hz1 hrl
      obtain ⟨zk, zn, zl⟩ := z
      dsimp only at d0 d1 d2 hz0 hz1 hrl
      have e0 := (HXW.out.trans HA.out.ext).cellS d0
      have e1 := (HXW.out.trans HA.out.ext).cellS d1
      clear d0 d1 d2 hrl hgs
      go_wp2_with fail
      refine (Pick_any _ zk 3 hz0 (by omega) (by omega)).mono ?_
      rintro e w' ⟨rfl, rfl⟩
      have hk := pickF_lt zk (3 : Int).toNat (by decide)
      generalize pickF zk (3 : Int).toNat = kk at hk ⊢
      have hk' : kk = 0 ∨ kk = 1 ∨ kk = 2 := by have : (3 : Int).toNat = 3 := rfl; omega
      clear hk e0
      rcases hk' with rfl | rfl | rfl
      · go_wp2_with fail
        refine (Pick_any _ zn 30 hz1 (by omega) (by omega)).mono ?_
        rintro e w' ⟨rfl, rfl⟩
        have hn := pickF_lt zn (30 : Int).toNat (by decide)
        generalize pickF zn (30 : Int).toNat = n at hn ⊢
        have hn40 : n < 30 := by have : (30 : Int).toNat = 30 := rfl; omega
        clear hn e1
        go_wp2_with fail
        refine (HA.out.take n (by omega)).mono ?_
        rintro e w3 ⟨v3, c3, now3, rfl, hl3, hm3⟩
        have HM3 := hid hm3
        clear hm3
        go_wp2_with fail
        go_roundw
        case rel => exact ⟨i + 1, T, now3, last, by go_num, by omega, by omega, hl3, HM3.out⟩
        case measure => simp [intOf]; omega
      · go_wp2_with fail
        refine (Pick_any _ zn ((now.length : Int) + 1) hz1 (by omega) (by omega)).mono ?_
        rintro e w' ⟨rfl, rfl⟩
        have hq := pickF_lt zn ((now.length : Int) + 1).toNat (by omega)
        generalize pickF zn ((now.length : Int) + 1).toNat = q at hq ⊢
        have hq5 : q ≤ 512 := by omega
        clear hq e1
        go_wp2_with fail
        refine (HA.out.give ((Ext.refl wo).alloc _) (rdRun_new wo ((q : Int), 1) (by dsimp only; omega) (by dsimp only; omega))).mono ?_
        rintro e w8 ⟨c8, T8, now8, rfl, hl8, hm8⟩
        have HM8 := hid hm8
        clear hm8
        go_wp2_with fail
        go_roundw
        case rel => exact ⟨i + 1, T8, now8, last, by go_num, by omega, by omega, hl8, HM8.out⟩
        case measure => simp [intOf]; omega
      · go_wp2_with fail
        refine HA.out.commit.mono ?_
        rintro e w3 ⟨T3, rfl, hm3⟩
        have HM3 := hid hm3
        clear hm3
        go_wp2_with fail
        go_roundw
        case rel => exact ⟨i + 1, T3, now, now, by go_num, by omega, by omega, rfl, HM3.out⟩
        case measure => simp [intOf]; omega
    · have hex : ¬ i < zs.length ∨ (i < zs.length ∧ ¬ i < 40) := by omega
      clear hlt
      rcases hex with hex | ⟨hex, hex2⟩
      all_goals
        go_wp2_with fail
        refine (Free_any _ _ g _ _ HA.out.map).mono ?_
        rintro e w3 ⟨rfl, hx3⟩
        have HM3 := hid (HA.out.exts hx3)
        have hfl := free_len now last
        obtain ⟨fr, hfr⟩ : ∃ fr, fr = (freeIdx now last).length := ⟨_, rfl⟩
        rw [← hfr] at hfl ⊢
        have HFR := hid hfr
        clear hx3 hfr
        go_wp2_with fail
        refine (Pick_any _ a2 ((fr : Int) + 1) h2 (by omega) (by omega)).mono ?_
        rintro e w' ⟨rfl, rfl⟩
        have hn := pickF_lt a2 ((fr : Int) + 1).toNat (by omega)
        generalize pickF a2 ((fr : Int) + 1).toNat = n at hn ⊢
        have hnf : n ≤ fr := by omega
        clear hn
        go_wp2_with fail
        refine (Take_ok T w3 g now last HM3.out.map n (by rw [← HFR.out]; exact hnf)).mono ?_
        rintro e w4 ⟨vr, rs, rfl, hc, hf, ho, hm4, hk4⟩
        obtain ⟨ar, cr, rfl⟩ := ho.slice
        have hrl : (rs.map runI).length = rs.length := List.length_map ..
        rw [hrl] at ho ⊢
        have HC := hid hc
        have HF := hid hf
        have HO := hid ho
        have HM4 := hid (show MI wb w4 T g _ last from ⟨hm4, HA.out.lo, HM3.out.ext.keepT hk4 HA.out.lo⟩)
        have hrl5 : rs.length ≤ 512 := by
          have h1 := canon_len rs hc.1
          rw [hf, List.length_take] at h1
          omega
        clear hc hf ho hm4 hk4 hrl
        go_wp2_with fail
        obtain ⟨B12, hB12⟩ : ∃ B12, B12 = w4.heap.size := ⟨_, rfl⟩
        have hwc := heap_alloc_new w4 (.cells #[.int .i64 (-1)] 3)
        have hxc : Ext w4 (w4.alloc (.cells #[.int .i64 (-1)] 3)) := (Ext.refl w4).alloc _
        have hsc : (w4.alloc (.cells #[.int .i64 (-1)] 3)).heap.size = w4.heap.size + 1 := by simp
        rw [← hB12] at hwc hsc ⊢
        generalize (w4.alloc (.cells #[.int .i64 (-1)] 3)) = wc at hwc hxc hsc ⊢
        have HB12 := hid hB12
        have HWC := hid hwc
        have HXC := hid hxc
        have HSC := hid hsc
        clear hB12 hwc hxc hsc
        go_loopw [13, 14] (fun u13 u14 wr => ∃ k : Nat, u14 = .int .i64 k ∧ k ≤ rs.length ∧ u13 = .int .i64 ((flat (rs.take k)).length : Nat) ∧ wr.heap[B12]? = some (.cells #[.int .i64 (lastI (rs.take k))] 3 (0, 0)) ∧ Keep (fun j => j < B12) wc wr) (fun _ u14 _ => rs.length - (intOf u14).toNat)
        case atStart => exact ⟨0, rfl, by omega, by simp [flat_nil], HWC.out, Keep.refl _ _⟩
        case round =>
          obtain ⟨wq, rfl⟩ : ∃ wq : World, wq = wr := ⟨_, rfl⟩
          obtain ⟨k, rfl, hk, rfl, hb, hkw⟩ := hrel
          have hlenk : (flat (rs.take k)).length ≤ 512 := by
            have h1 := flat_append (rs.take k) (rs.drop k)
            rw [List.take_append_drop, HF.out] at h1
            have h2 := congrArg List.length h1
            rw [List.length_append, List.length_take] at h2
            omega
          have HB := hid hb
          have HKW := hid hkw
          clear hb hkw
          by_cases hkl : k < rs.length
          · obtain ⟨⟨ra, rc⟩, hrk⟩ : ∃ x, rs[k]? = some x := ⟨_, List.getElem?_eq_getElem hkl⟩
            have hin := canon_in HC.out HF.out (List.mem_of_getElem? hrk)
            dsimp only at hin
            obtain ⟨gr, crr, cur, er, hgr, hgr2, hrr⟩ := HO.out.head1 (by rw [List.length_map]; omega)
            rw [List.length_map] at er
            simp only [Value.slice.injEq] at er
            obtain ⟨rfl, -, rfl⟩ := er
            obtain ⟨gr', o', cap', cs, e', -, -, hcs, hcc, hrd⟩ := HO.out.rdT.at k (by rw [List.length_map]; exact hkl)
            simp only [Value.slice.injEq, Option.some.injEq, Addr.mk.injEq] at e'
            obtain ⟨⟨rfl, rfl, -⟩, -, -⟩ := e'
            have hget : (rs.map runI)[k]'(by rw [List.length_map]; exact hkl) = runI (ra, rc) := by
              rw [List.getElem_map]
              congr 1
              exact (List.getElem?_eq_some_iff.1 hrk).2
            rw [hget] at hrd
            obtain ⟨_, _, rfl, ⟨rfl, b1⟩, rfl, b2⟩ := hrd
            have d0 := hcc 0 _ rfl
            have d1 := hcc 1 _ rfl
            simp only [← Nat.add_assoc, Nat.add_zero, Nat.zero_add, show rRn.size = 2 from rfl, runI] at d0 d1
            have hne : gr < B12 := by rw [HB12.out]; exact hgr2
            have f0 := HKW.out.cell (HXC.out.cellS d0) hne
            have f1 := HKW.out.cell (HXC.out.cellS d1) hne
            have hll := lastI_lt HC.out hrk
            have HLS := hid (lastI_take_succ hrk)
            have HFS := hid (flat_take_succ hrk)
            obtain ⟨Lk, hLk⟩ : ∃ Lk, Lk = lastI (rs.take k) := ⟨_, rfl⟩
            rw [← hLk] at hll HB
            clear hLk hcc hcs hget b1 b2 d0 d1 hrk hrr
            have f2 : wq.cell? ⟨B12, 0, none⟩ = some (.int .i64 Lk) := (cell_of_row _ _ 0 _ _ _ HB.out).trans rfl
            have i1 : (k : Int) < (rs.length : Int) := by omega
            have i3 : (0 : Int) ≤ (k : Int) := by omega
            have t1 : ¬ (rc : Int) < 1 := by omega
            have t2 : ¬ (ra : Int) ≤ Lk := by omega
            go_wp2_with fail
            go_quiet (fail)
            have g0 : (wq.drewN nq).cell? ⟨gr, k * 2, none⟩ = _ := Ext.cellS ((Ext.refl wq).drewN nq) f0
            have g1 : (wq.drewN nq).cell? ⟨gr, k * 2 + 1, none⟩ = _ := Ext.cellS ((Ext.refl wq).drewN nq) f1
            have g2 : (wq.drewN nq).cell? ⟨B12, 0, none⟩ = _ := Ext.cellS ((Ext.refl wq).drewN nq) f2
            have hkq := HKW.out.drewN nq
            have hbq : (wq.drewN nq).heap[B12]? = _ := HB.out
            clear f0 f1 f2 HKW HB
            generalize (wq.drewN nq) = wq2 at g0 g1 g2 hkq hbq ⊢
            have fz := frozen_blk hbq 0
            have HKQ := hid hkq
            have HBQ := hid hbq
            have hwr1 : IntKind.i64.wrap ((ra : Int) + (rc : Int)) = (ra : Int) + (rc : Int) := by rw [IntKind.wrap_i64]; omega
            have hwr2 : IntKind.i64.wrap ((ra : Int) + (rc : Int) - 1) = (ra : Int) + (rc : Int) - 1 := by rw [IntKind.wrap_i64]; omega
            have nn1 : ¬ gr = B12 := by omega
            have nn2 : ¬ B12 = gr := by omega
            clear hkq hbq hll
            go_wp2_with fail
            have hxd : Ext wq2 wq2.drew := by (· repeat (first | (with_reducible assumption) | exact Ext.refl _ | refine Ext.alloc ?_ _ | refine Ext.drew ?_ | refine Ext.drewN ?_ _ | (apply Ext.snart; (with_reducible assumption))))
            refine wp_region_T (fun w' => w'.cell? ⟨gr, k * 2, none⟩ = some (.int .i64 (ra : Int)) ∧ w'.cell? ⟨gr, k * 2 + 1, none⟩ = some (.int .i64 (rc : Int))) [12] (by kernel_rfl) ⟨hxd.cellS g0, hxd.cellS g1⟩ (fun hS => ?_)
            (refine wpAnyT_take (i := 0) (v := ?_) rfl (by kernel_rfl) (by kernel_rfl) (by kernel_rfl) (by kernel_rfl) (fun _ _ _ h => h) (Or.inl ⟨by rfl, ?_⟩) (by assumption) ?_; rotate_left; ((intro wS hSw; (try dsimp only at hSw); (try simp only [List.getElem_toArray, List.getElem_cons_zero, List.getElem_cons_succ]); go_simp); (try with_reducible rfl)); (try simp only [Act.put, List.getElem_toArray, List.getElem_cons_zero, List.getElem_cons_succ, List.setIfInBounds_toArray, List.set_cons_zero, List.set_cons_succ]))
            (refine wpAnyT_take (i := 1) (v := ?_) rfl (by kernel_rfl) (by kernel_rfl) (by kernel_rfl) (by kernel_rfl) (fun _ _ _ h => h) (Or.inl ⟨by rfl, ?_⟩) (by assumption) ?_; rotate_left; ((intro wS hSw; (try dsimp only at hSw); (try simp only [List.getElem_toArray, List.getElem_cons_zero, List.getElem_cons_succ]); go_simp); (try with_reducible rfl)); (try simp only [Act.put, List.getElem_toArray, List.getElem_cons_zero, List.getElem_cons_succ, List.setIfInBounds_toArray, List.set_cons_zero, List.set_cons_succ]))
            (refine wpAnyT_take (i := 2) (v := ?_) rfl (by kernel_rfl) (by kernel_rfl) (by kernel_rfl) (by kernel_rfl) (fun _ _ _ h => h) (Or.inl ⟨by rfl, ?_⟩) (by assumption) ?_; rotate_left; ((intro wS hSw; (try dsimp only at hSw); (try simp only [List.getElem_toArray, List.getElem_cons_zero, List.getElem_cons_succ]); go_simp); (try with_reducible rfl)); (try simp only [Act.put, List.getElem_toArray, List.getElem_cons_zero, List.getElem_cons_succ, List.setIfInBounds_toArray, List.set_cons_zero, List.set_cons_succ]))
            (refine wpAnyT_take (i := 3) (v := ?_) rfl (by kernel_rfl) (by kernel_rfl) (by kernel_rfl) (by kernel_rfl) (fun _ _ _ h => h) (Or.inl ⟨by rfl, ?_⟩) (by assumption) ?_; rotate_left; ((intro wS hSw; (try dsimp only at hSw); (try simp only [List.getElem_toArray, List.getElem_cons_zero, List.getElem_cons_succ]); go_simp); (try with_reducible rfl)); (try simp only [Act.put, List.getElem_toArray, List.getElem_cons_zero, List.getElem_cons_succ, List.setIfInBounds_toArray, List.set_cons_zero, List.set_cons_succ]))
            (refine wpAnyT_take (i := 4) (v := ?_) rfl (by kernel_rfl) (by kernel_rfl) (by kernel_rfl) (by kernel_rfl) (fun _ _ _ h => h) (Or.inl ⟨by rfl, ?_⟩) (by assumption) ?_; rotate_left; ((intro wS hSw; (try dsimp only at hSw); (try simp only [List.getElem_toArray, List.getElem_cons_zero, List.getElem_cons_succ]); go_simp); (try with_reducible rfl)); (try simp only [Act.put, List.getElem_toArray, List.getElem_cons_zero, List.getElem_cons_succ, List.setIfInBounds_toArray, List.set_cons_zero, List.set_cons_succ]))
            (refine wpAnyT_take (i := 5) (v := ?_) rfl (by kernel_rfl) (by kernel_rfl) (by kernel_rfl) (by kernel_rfl) (fun _ _ _ h => h) (Or.inl ⟨by rfl, ?_⟩) (by assumption) ?_; rotate_left; ((intro wS hSw; (try dsimp only at hSw); (try simp only [List.getElem_toArray, List.getElem_cons_zero, List.getElem_cons_succ]); go_simp); (try with_reducible rfl)); (try simp only [Act.put, List.getElem_toArray, List.getElem_cons_zero, List.getElem_cons_succ, List.setIfInBounds_toArray, List.set_cons_zero, List.set_cons_succ]))
            (refine wpAnyT_take (i := 6) (v := ?_) rfl (by kernel_rfl) (by kernel_rfl) (by kernel_rfl) (by kernel_rfl) (fun _ _ _ h => h) (Or.inl ⟨by rfl, ?_⟩) (by assumption) ?_; rotate_left; ((intro wS hSw; (try dsimp only at hSw); (try simp only [List.getElem_toArray, List.getElem_cons_zero, List.getElem_cons_succ]); go_simp); (try with_reducible rfl)); (try simp only [Act.put, List.getElem_toArray, List.getElem_cons_zero, List.getElem_cons_succ, List.setIfInBounds_toArray, List.set_cons_zero, List.set_cons_succ]))
            (refine wpAnyT_take (i := 7) (v := ?_) rfl (by kernel_rfl) (by kernel_rfl) (by kernel_rfl) (by kernel_rfl) (fun _ _ _ h => h) (Or.inl ⟨by rfl, ?_⟩) (by assumption) ?_; rotate_left; ((intro wS hSw; (try dsimp only at hSw); (try simp only [List.getElem_toArray, List.getElem_cons_zero, List.getElem_cons_succ]); go_simp); (try with_reducible rfl)); (try simp only [Act.put, List.getElem_toArray, List.getElem_cons_zero, List.getElem_cons_succ, List.setIfInBounds_toArray, List.set_cons_zero, List.set_cons_succ]))
            (refine wpAnyT_take (i := 8) (v := ?_) rfl (by kernel_rfl) (by kernel_rfl) (by kernel_rfl) (by kernel_rfl) (fun _ _ _ h => h) (Or.inl ⟨by rfl, ?_⟩) (by assumption) ?_; rotate_left; ((intro wS hSw; (try dsimp only at hSw); (try simp only [List.getElem_toArray, List.getElem_cons_zero, List.getElem_cons_succ]); go_simp); (try with_reducible rfl)); (try simp only [Act.put, List.getElem_toArray, List.getElem_cons_zero, List.getElem_cons_succ, List.setIfInBounds_toArray, List.set_cons_zero, List.set_cons_succ]))
            (refine wpAnyT_take (i := 9) (v := ?_) rfl (by kernel_rfl) (by kernel_rfl) (by kernel_rfl) (by kernel_rfl) (fun _ _ _ h => h) (Or.inl ⟨by rfl, ?_⟩) (by assumption) ?_; rotate_left; ((intro wS hSw; (try dsimp only at hSw); (try simp only [List.getElem_toArray, List.getElem_cons_zero, List.getElem_cons_succ]); go_simp); (try with_reducible rfl)); (try simp only [Act.put, List.getElem_toArray, List.getElem_cons_zero, List.getElem_cons_succ, List.setIfInBounds_toArray, List.set_cons_zero, List.set_cons_succ]))
            (refine wpAnyT_take (i := 10) (v := ?_) rfl (by kernel_rfl) (by kernel_rfl) (by kernel_rfl) (by kernel_rfl) (fun _ _ _ h => h) (Or.inl ⟨by rfl, ?_⟩) (by assumption) ?_; rotate_left; ((intro wS hSw; (try dsimp only at hSw); (try simp only [List.getElem_toArray, List.getElem_cons_zero, List.getElem_cons_succ]); go_simp); (try with_reducible rfl)); (try simp only [Act.put, List.getElem_toArray, List.getElem_cons_zero, List.getElem_cons_succ, List.setIfInBounds_toArray, List.set_cons_zero, List.set_cons_succ]))
            (refine wpAnyT_take (i := 11) (v := ?_) rfl (by kernel_rfl) (by kernel_rfl) (by kernel_rfl) (by kernel_rfl) (fun _ _ _ h => h) (Or.inl ⟨by rfl, ?_⟩) (by assumption) ?_; rotate_left; ((intro wS hSw; (try dsimp only at hSw); (try simp only [List.getElem_toArray, List.getElem_cons_zero, List.getElem_cons_succ]); go_simp); (try with_reducible rfl)); (try simp only [Act.put, List.getElem_toArray, List.getElem_cons_zero, List.getElem_cons_succ, List.setIfInBounds_toArray, List.set_cons_zero, List.set_cons_succ]))
            refine wpAnyT_all (rs := [12]) (by kernel_rfl) (by decide) (AllT.consF rfl rfl (fun K hK => ?_) AllT.nil)
            go_simp
            (refine hK.out _ _ ?_; clear hK K)
            refine wpAnyT_done (by kernel_rfl) (NoPanic.normal ?_) _
            have g1' : (wq2.setCell ⟨B12, 0, none⟩ (.int .i64 ((ra : Int) + (rc : Int) - 1))).cell? ⟨gr, k * 2 + 1, none⟩ = some (.int .i64 (rc : Int)) := ((Keep.refl (fun j => j ≠ B12) wq2).setCell (p := ⟨B12, 0, none⟩) (fun h => h rfl) _).cell g1 nn1
            go_wp2_with fail
            go_roundw
            case rel =>
              refine ⟨k + 1, by go_num, by omega, by rw [HFS.out, List.length_append, List.length_range']; simp, ?_, (HKQ.out.setCell (p := ⟨B12, 0, none⟩) (fun h => Nat.lt_irrefl _ h) _).drew⟩
              rw [HLS.out]
              exact (set_blk HBQ.out _).trans (by simp)
            case measure => simp [intOf]; omega
          · obtain rfl : k = rs.length := by omega
            rw [List.take_length] at HB ⊢
            have hmn : (flat rs).length = n := by
              rw [HF.out, List.length_take, ← HFR.out]; omega
            rw [hmn]
            have hkb : Keep (fun k => k < w4.heap.size) w4 wq := (HXC.out.keep _).trans (HKW.out.mono fun j hj _ => by have := HB12.out; omega)
            have HMQ := hid (HM4.out.map.keepB hkb)
            have HKB := hid hkb
            have b6lt : B6 < w4.heap.size := Nat.lt_of_lt_of_le (Array.getElem?_eq_some_iff.1 HW6.out).1 HM4.out.ext.size
            have hw6q := (hkb.block B6 b6lt b6lt).trans ((Below.block HM4.out.ext B6 (Array.getElem?_eq_some_iff.1 HW6.out).1).trans HW6.out)
            have hxq : Ext w wq := by
              have h1 : Ext w w4 := HXW.out.trans HM4.out.ext
              exact h1.keepT (T := fun j => ¬ j < w4.heap.size) (hkb.mono fun j hj _ => Decidable.of_not_not hj) (fun j hj => by have := h1.size; omega)
            have HW6Q := hid hw6q
            have HXQ := hid hxq
            clear hkb hw6q hxq hmn hlenk
            go_wp2_with fail
            refine (MapAll_any _ _).mono ?_
            rintro e w' ⟨rfl, rfl⟩
            go_wp2_with fail
            obtain ⟨WR, hWR⟩ : ∃ WR, WR = wq.alloc (.cells #[.pointer (some ⟨g, 0, none⟩)] 34) := ⟨_, rfl⟩
            have hxr : Ext wq WR := by rw [hWR]; exact (Ext.refl wq).alloc _
            have hMr : WR.heap[wq.heap.size]? = some (.cells #[.pointer (some ⟨g, 0, none⟩)] 34 (0, 0)) := by rw [hWR]; exact heap_alloc_new _ _
            rw [← hWR]
            clear hWR
            have HXR := hid hxr
            have hB12 : WR.heap[B12]? = some (.cells #[.int .i64 (lastI rs)] 3 (0, 0)) := (Below.block hxr B12 (Array.getElem?_eq_some_iff.1 HB.out).1).trans HB.out
            have hB6r := (Below.block hxr B6 (Array.getElem?_eq_some_iff.1 HW6Q.out).1).trans HW6Q.out
            have HB12 := hid hB12
            have HB6R := hid hB6r
            clear hxr hB12 hB6r
            refine (wpIn_wide (n := 9)).1 ?_
            refine range_runs 15 (by omega) rfl (HMQ.out.ext HXR.out) ((cell_of_row _ _ 0 _ _ _ hMr).trans rfl) rfl (fun _ _ V => Keep (fun k => k < WR.heap.size) WR V) (fun _ _ _ _ => False) (fun s C V V' q hk => q.trans (hk.mono fun k h _ => .inl h)) (fun _ _ _ _ _ h _ => h) (fun _ => False) (fun _ h => h.elim) (Keep.refl _ _) ?_ ?_ ?_ (fun D c pre C V _ _ _ hf _ => hf.elim)
            · intro l x V K hK
              simp only [encR]
              gi_wp2
              exact hK _ _ _ (Nat.le_refl _) (heap_alloc_new _ _) ((Ext.refl V).alloc _) (by simp [encR])
            · intro l pre x C V Bx V₂ hI hBx hrx p1 p2 p3 hok
              have hrow := (hI.block B12 (Array.getElem?_eq_some_iff.1 HB12.out).1 (Array.getElem?_eq_some_iff.1 HB12.out).1).trans HB12.out
              have hfree := free_behind HC.out HF.out hok
              obtain ⟨Lr, hLr⟩ : ∃ Lr, Lr = lastI rs := ⟨_, rfl⟩
              rw [← hLr] at hrow hfree
              have c1 : V₂.cell? ⟨Bx, 0, none⟩ = some (.int .i64 (x.1 : Int)) := (cell_of_row _ _ 0 _ _ _ hrx).trans rfl
              have c2 : V₂.cell? ⟨B12, 0, none⟩ = some (.int .i64 Lr) := (cell_of_row _ _ 0 _ _ _ hrow).trans rfl
              have HI := hid hI
              clear hrow hLr hI hok hrx
              simp only [encR]
              gi_wp2
              exact ⟨C, ⟨Keep.refl _ _, fun k hk => ⟨.inl (.inl hk), by have := p3 k hk; omega⟩⟩, HI.out⟩
            · intro D xs C V hD hCD hS hI hdef
              have hrow := (hI.block B6 (Array.getElem?_eq_some_iff.1 HB6R.out).1 (Array.getElem?_eq_some_iff.1 HB6R.out).1).trans HB6R.out
              have c6 : V.cell? ⟨B6, 0, none⟩ = some (.bool false) := (cell_of_row _ _ 0 _ _ _ hrow).trans rfl
              have f6 := frozen_blk hrow 0
              have HI := hid hI
              have HD := hid hdef
              have HROW := hid hrow
              clear hI hdef hS hrow
              go_wp2_with fail
              have hdb : D ≠ B6 := fun e => by have h1 := (Array.getElem?_eq_some_iff.1 HB6R.out).1; omega
              have hd2 : (V.setCell ⟨B6, 0, none⟩ (.bool true)).heap[D]? = some (.deferred (some [])) := (Below.heap_setCell _ _ _ _ (show D ≠ B6 from hdb)).trans HD.out
              have hk3 : Keep (fun k => k ≠ D) (V.setCell ⟨B6, 0, none⟩ (.bool true)) ((V.setCell ⟨B6, 0, none⟩ (.bool true)).putObj D (.deferred none)) := keep_putObj _ D _ (fun h => h rfl)
              have hr6 := (set_blk HROW.out (o := 0) (.bool true)).trans (show _ = some (.cells #[.bool true] 4 (0, 0)) by simp)
              have hc6 : ((V.setCell ⟨B6, 0, none⟩ (.bool true)).putObj D (.deferred none)).cell? ⟨B6, 0, none⟩ = some (.bool true) := hk3.cell ((cell_of_row _ _ 0 _ _ _ hr6).trans rfl) (fun e => hdb e.symm)
              refine ⟨by simp, .inl ⟨_, _, rfl, run_takeDeferred hd2, ?_⟩⟩
              refine ⟨.bool true, by simp [results, Try.results5, go_sem, hc6], rfl, ?_⟩
              have e1 : Ext w WR := HXQ.out.trans HXR.out
              have e2 : Ext w V := e1.keepT (T := fun j => ¬ j < WR.heap.size) (HI.out.mono fun j hj _ => Decidable.of_not_not hj) (fun j hj => by have := e1.size; omega)
              exact Ext.keepT (T := fun j => j = D) (e2.setCell (p := ⟨B6, 0, none⟩) (by have := HB6.out; dsimp only; omega) _) hk3 (fun k hk => by subst hk; have := e1.size; omega)
end Go.Proofs.Ytbpcgfplokkfpaa
