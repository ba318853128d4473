/- AllocResets, walked. -/
import Derived.Test.YtbpcgfplokkfpaaAlM
namespace Go.Proofs.Ytbpcgfplokkfpaa
open Go.RowKit
set_option linter.unusedVariables false
set_option linter.unusedSimpArgs false

set_option maxRecDepth 100000 in
set_option maxHeartbeats 8000000 in
theorem allocResets_walk (w : World) (a0 : Int) (h0 : -9223372036854775808 ≤ a0 ∧ a0 ≤ 9223372036854775807) (v : Value) (zs : List Call5) (rd : RdS rCall5 w (fun k => k < w.heap.size) v zs) (v2 : Value) (zs2 : List Call5) (rd2 : RdS rCall5 w (fun k => k < w.heap.size) v2 zs2) :
    Calls Try.prog 6 #[.int .i64 a0, v, v2] w fun e w' => e = .returned (.bool true) ∧ Below w.heap.size w w' := by
  have HV := hid rd
  have HV2 := hid rd2
  obtain ⟨av, cv, rfl, hc1, hc2⟩ := rd.slice
  obtain ⟨av2, cv2, rfl, hc3, hc4⟩ := rd2.slice
  clear rd rd2
  go_enter Try.func6, Try.ntmps6
  go_wp2_with fail
  refine (awake5_any _).mono ?_
  rintro e w1 ⟨rfl, hx1⟩
  go_wp2_with fail
  refine (Pick_any _ a0 513 h0 (by omega) (by omega)).mono ?_
  rintro e w1' ⟨rfl, rfl⟩
  have hN := pickF_lt a0 (513 : Int).toNat (by decide)
  generalize pickF a0 (513 : Int).toNat = N at hN ⊢
  have hN' : N ≤ 512 := by have : (513 : Int).toNat = 513 := rfl; omega
  clear hN
  go_wp2_with fail
  refine (NewM_ok w1 N hN').mono ?_
  rintro e w2 ⟨g, rfl, hm, hx2⟩
  have HS := hid (show MI w w2 _ g (List.replicate N false) (List.replicate N false) from ⟨hm, fun k hk => Nat.le_trans hx1.size hk.1, hx1.trans hx2⟩)
  clear hm hx1 hx2
  go_wp2_with fail
  go_loopw [9] (fun u9 wr => ∃ (i : Nat) (T : Nat → Prop) (now last : List Bool), u9 = .int .i64 i ∧ i ≤ zs.length ∧ i ≤ 20 ∧ now.length = N ∧ MI w wr T g now last) (fun u9 _ => 20 - (intOf u9).toNat)
  case atStart => exact ⟨0, _, _, _, rfl, by omega, by omega, by simp, HS.out⟩
  case round =>
    clear HS
    obtain ⟨wo, rfl⟩ : ∃ wo : World, wo = wr := ⟨_, rfl⟩
    obtain ⟨i, T, now, last, rfl, hi, hi60, rfl, ha⟩ := hrel
    have HA := hid ha
    clear ha
    by_cases hlt : i < zs.length ∧ i < 20
    · obtain ⟨hlt, hlt2⟩ := hlt
      obtain ⟨gl, ol, cl, lv, e, hgl, hgs, d0, d1, d2, hz0, hz1, hrl⟩ := HV.out.atCall5 i hlt
      simp only [Value.slice.injEq] at e
      obtain ⟨rfl, -, rfl⟩ := e
      generalize zs[i] = z at d0 d1 d2 hz0 hz1 hrl
      obtain ⟨zk, zn, zl⟩ := z
      dsimp only at d0 d1 d2 hz0 hz1 hrl
      have e1 := HA.out.ext.cellS d1
      have D2 := hid d2
      have HRL := hid hrl
      clear d0 d1 d2 hrl hgs
      go_wp2_with fail
      refine (Pick_any _ zn 30 hz1 (by omega) (by omega)).mono ?_
      rintro e w' ⟨rfl, rfl⟩
      have hn := pickF_lt zn (30 : Int).toNat (by decide)
      generalize pickF zn (30 : Int).toNat = n at hn ⊢
      have hn40 : n < 30 := by have : (30 : Int).toNat = 30 := rfl; omega
      clear hn e1
      go_wp2_with fail
      refine (HA.out.take n (by omega)).mono ?_
      rintro e w3 ⟨v3, c3, now3, rfl, hl3, hm3⟩
      have HM3 := hid hm3
      have e2 := hm3.ext.cellS D2.out
      clear hm3
      go_wp2_with fail
      refine (HM3.out.give (Ext.refl w3) (HRL.out.ext HM3.out.ext)).mono ?_
      rintro e w4 ⟨c4, T4, now4, rfl, hl4, hm4⟩
      have HM4 := hid hm4
      clear hm4 e2
      go_wp2_with fail
      go_roundw
      case rel => exact ⟨i + 1, T4, now4, last, by go_num, by omega, by omega, by omega, HM4.out⟩
      case measure => simp [intOf]; omega
    · have hex : ¬ i < zs.length ∨ (i < zs.length ∧ ¬ i < 20) := by omega
      clear hlt
      rcases hex with hex | ⟨hex, hex2⟩
      all_goals
        go_wp2_with fail
        refine HA.out.commit.mono ?_
        rintro e w3 ⟨T3, rfl, hm3⟩
        have HM3 := hid hm3
        clear hm3
        go_wp2_with fail
        refine (MBytes_any _ _ g _ _ HM3.out.map).mono ?_
        (rintro e w' ⟨v', rfl, ho', hb'⟩; have hr' := rdB_own ho'; obtain ⟨a', c', rfl⟩ := OwnB.slice ho'; (try simp only [List.nil_append, List.length_append, List.length_cons, List.length_nil, Nat.zero_add, Nat.reduceAdd] at ho' hr'); have hx' := Ext.of hb'; clear hb')
        have hs' := run_strB hr'
        have HX4 := hid hx'
        clear hx'
        go_wp2_with fail
        refine (Free_any _ _ g _ _ (HM3.out.map.ext HX4.out)).mono ?_
        rintro e w5 ⟨rfl, hx5⟩
        have HM5 := hid (HM3.out.exts (HX4.out.trans hx5))
        clear hx5 hs' hr' ho'
        go_wp2_with fail
        obtain ⟨N2, hN2⟩ : ∃ N2, N2 = now.length := ⟨_, rfl⟩
        have HN2 := hid hN2
        clear hN2
        go_loopw [12] (fun u12 wr => ∃ (i : Nat) (T : Nat → Prop) (now' : List Bool), u12 = .int .i64 i ∧ i ≤ zs2.length ∧ i ≤ 20 ∧ now'.length = now.length ∧ MI w wr T g now' now) (fun u12 _ => 20 - (intOf u12).toNat)
        case atStart => exact ⟨0, _, _, rfl, by omega, by omega, rfl, HM5.out⟩
        case round =>
          obtain ⟨wq, rfl⟩ : ∃ wq : World, wq = wr := ⟨_, rfl⟩
          obtain ⟨j, Tj, nowj, rfl, hj, hj20, hlj, hmj⟩ := hrel
          have HJ := hid hmj
          clear hmj
          by_cases hjt : j < zs2.length ∧ j < 20
          · obtain ⟨hjt, hjt2⟩ := hjt
            obtain ⟨gl2, ol2, cl2, lv2, e, hgl2, hgs2, d0, d1, d2, hz0, hz1, hrl⟩ := HV2.out.atCall5 j hjt
            simp only [Value.slice.injEq] at e
            obtain ⟨rfl, -, rfl⟩ := e
            generalize zs2[j] = z at d0 d1 d2 hz0 hz1 hrl
            obtain ⟨zk2, zn2, zl2⟩ := z
            dsimp only at d0 d1 d2 hz0 hz1 hrl
            have e2 := HJ.out.ext.cellS d2
            have D0 := hid d0
            have D1 := hid d1
            have HRL := hid hrl
            clear d0 d1 d2 hrl hgs2
            go_wp2_with fail
            refine (HJ.out.give (Ext.refl wq) (HRL.out.ext HJ.out.ext)).mono ?_
            rintro e w6 ⟨c6, T6, now6, rfl, hl6, hm6⟩
            have e3 := hm6.ext.cellS D1.out
            have HM6 := hid hm6
            clear hm6 e2
            go_wp2_with fail
            refine (Pick_any _ zn2 30 hz1 (by omega) (by omega)).mono ?_
            rintro e w' ⟨rfl, rfl⟩
            have hn := pickF_lt zn2 (30 : Int).toNat (by decide)
            generalize pickF zn2 (30 : Int).toNat = n at hn ⊢
            have hn40 : n < 30 := by have : (30 : Int).toNat = 30 := rfl; omega
            clear hn e3
            go_wp2_with fail
            refine (HM6.out.take n (by omega)).mono ?_
            rintro e w7 ⟨v7, c7, now7, rfl, hl7, hm7⟩
            have e4 := hm7.ext.cellS D0.out
            have HM7 := hid hm7
            clear hm7
            go_wp2_with fail
            refine (Pick_any _ zk2 ((now.length : Int) + 1) hz0 (by omega) (by omega)).mono ?_
            rintro e w' ⟨rfl, rfl⟩
            have hq := pickF_lt zk2 ((now.length : Int) + 1).toNat (by omega)
            generalize pickF zk2 ((now.length : Int) + 1).toNat = q at hq ⊢
            have hq5 : q ≤ 512 := by omega
            clear hq e4
            go_wp2_with fail
            refine (HM7.out.give ((Ext.refl w7).alloc _) (rdRun_new w7 ((q : Int), 1) (by dsimp only; omega) (by dsimp only; omega))).mono ?_
            rintro e w8 ⟨c8, T8, now8, rfl, hl8, hm8⟩
            have HM8 := hid hm8
            clear hm8
            go_wp2_with fail
            go_roundw
            case rel => exact ⟨j + 1, T8, now8, by go_num, by omega, by omega, by omega, HM8.out⟩
            case measure => simp [intOf]; omega
          · have hex3 : ¬ j < zs2.length ∨ (j < zs2.length ∧ ¬ j < 20) := by omega
            clear hjt
            rcases hex3 with hex3 | ⟨hex3, hex4⟩
            all_goals
              go_wp2_with fail
              refine HJ.out.reset.mono ?_
              rintro e w6 ⟨T6, rfl, hm6⟩
              have HM6 := hid hm6
              clear hm6
              go_wp2_with fail
              refine (MBytes_any _ _ g _ _ HM6.out.map).mono ?_
              (rintro e w' ⟨v', rfl, ho', hb'⟩; have hr' := rdB_own ho'; obtain ⟨a', c', rfl⟩ := OwnB.slice ho'; (try simp only [List.nil_append, List.length_append, List.length_cons, List.length_nil, Nat.zero_add, Nat.reduceAdd] at ho' hr'); have hx' := Ext.of hb'; clear hb')
              have hs' := run_strB hr'
              have HX7 := hid hx'
              clear hx'
              go_wp2_with fail
              refine (Free_any _ _ g _ _ (HM6.out.map.ext HX7.out)).mono ?_
              rintro e w8 ⟨rfl, hx8⟩
              have HX8 := hid (HM6.out.ext.trans (HX7.out.trans hx8))
              clear hx8
              go_wp2_with fail
              go_ret
              exact ⟨by simp, HX8.out⟩
end Go.Proofs.Ytbpcgfplokkfpaa
