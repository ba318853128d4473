/- StreamsPieces, walked. -/
import Derived.Test.YthobhkmphjnlaaaStrJ
import Derived.Test.YthobhkmphjnlaaaStrR
import Derived.Test.YthobhkmphjnlaaaStrQ
import Derived.Test.YthobhkmphjnlaaaStrW
import Derived.Deep.DeepCutAuto
namespace Go.Proofs.Ythobhkmphjnlaaa
open Go.RowKit
set_option linter.unusedVariables false
set_option linter.unusedSimpArgs false

theorem take_more {α : Type} (l : List α) (a n : Nat) : l.take (a + n) = l.take a ++ (l.drop a).take n := List.take_add

set_option maxRecDepth 100000 in
set_option maxHeartbeats 4000000 in
theorem streamsPieces_walk (w : World) (sv : Value) (cs : List Cl) (hs : RdS rCl w (fun k => k < w.heap.size) sv cs) (sz : Int) (hsz : -9223372036854775808 ≤ sz ∧ sz ≤ 9223372036854775807) (wh : Int) (hwh : -9223372036854775808 ≤ wh ∧ wh ≤ 9223372036854775807) :
    Calls Try.prog 10 #[sv, .int .i64 sz, .int .i64 wh] w fun e w' => e = .returned (.bool true) ∧ Below w.heap.size w w' := by
  obtain ⟨hsz1, hsz2⟩ := hsz
  obtain ⟨hwh1, hwh2⟩ := hwh
  obtain ⟨sa, sc, rfl, hsc1, hsc2⟩ := hs.slice
  have HS := hid hs
  clear hs
  go_enter Try.func10, Try.ntmps10
  go_wp2_with fail
  refine (awake10_any w).mono ?_
  rintro e w1 ⟨rfl, hx1⟩
  have HX1 := hid hx1
  clear hx1
  go_wp2_with fail
  refine (filled_any w1 _ cs ((HS.out.ext HX1.out).mono fun k hk hl => hl)).mono ?_
  rintro e w2 ⟨g, x, rfl, hi, hre, hall, hx2⟩
  have HI := hid hi
  have HRE := hid hre
  have HX2 := hid hx2
  clear hi hre hx2 HS
  go_upto_region 5 with fail
  go_cut [38] (fun s38 wx => ∃ b : Bool, s38 = .bool b ∧ (b = true ∨ (1 ≤ sz ∧ sz ≤ 1000)) ∧ wx = w2)
  case first =>
    by_cases h1 : sz < 1
    · go_wp2_with fail
      go_meet
      exact ⟨true, rfl, .inl rfl, rfl⟩
    · by_cases h2 : 1000 < sz
      · go_wp2_with fail
        go_meet
        exact ⟨true, rfl, .inl rfl, rfl⟩
      · go_wp2_with fail
        go_meet
        exact ⟨false, rfl, .inr ⟨by omega, by omega⟩, rfl⟩
  case rest =>
    obtain ⟨b, rfl, hb, rfl⟩ := hcut
    go_upto_if 38 with fail
    go_cut [1] (fun s1 wx => ∃ n : Nat, s1 = .int .i64 n ∧ 1 ≤ n ∧ n ≤ 1000 ∧ wx = wc)
    case first =>
      cases b
      · obtain ⟨k1, k2⟩ : 1 ≤ sz ∧ sz ≤ 1000 := by simpa using hb
        obtain ⟨n, rfl⟩ : ∃ n : Nat, sz = (n : Int) := ⟨sz.toNat, by omega⟩
        go_wp2_with fail
        go_meet
        exact ⟨n, rfl, by omega, by omega, rfl⟩
      · go_wp2_with fail
        go_meet
        exact ⟨3, rfl, by omega, by omega, rfl⟩
    case rest =>
      obtain ⟨n, rfl, hn1, hn2, rfl⟩ := hcut
      clear hb hsz1 hsz2
      go_wp2_with fail
      refine (Names_idx _ _ g x HI.out (by omega)).mono ?_
      rintro e w3 ⟨nv, nl, rfl, hnl, -, hnn, hx3⟩
      obtain ⟨na, nc, rfl⟩ := hnl.slice
      have HNL := hid hnl.rdT
      have HX3 := hid hx3
      clear hnl hx3
      go_upto_if 43 with fail
      go_cut [10] (fun s10 wx => ∃ nm : ByteArray, s10 = .string nm ∧ nm.size ≤ 9223372036854775807 ∧ wx = w3)
      case first =>
        by_cases h0 : 0 < nl.length
        · by_cases h1 : wh < 0
          · obtain ⟨m, rfl⟩ : ∃ m : Nat, wh = -(m : Int) - 1 := ⟨(-(wh + 1)).toNat, by omega⟩
            have hm2 : wrap64 (-(m : Int) - 1 + 1) = -(m : Int) := by unfold wrap64; omega
            have hm3 : wrap64 (m : Int) = (m : Int) := by unfold wrap64; omega
            have hrem : (m : Int).tmod (nl.length : Int) = ((m % nl.length : Nat) : Int) := by rw [Int.tmod_eq_emod_of_nonneg (by omega)]; rfl
            have hml := Nat.mod_lt m h0
            obtain ⟨gn, on, capn, en, hgn, -, zn, hzn⟩ := HNL.out.atS (m % nl.length) hml
            simp only [Value.slice.injEq] at en
            obtain ⟨rfl, -, rfl⟩ := en
            go_wp2_with fail
            go_meet
            exact ⟨_, rfl, hzn, rfl⟩
          · obtain ⟨m, rfl⟩ : ∃ m : Nat, wh = (m : Int) := ⟨wh.toNat, by omega⟩
            have hrem : (m : Int).tmod (nl.length : Int) = ((m % nl.length : Nat) : Int) := by rw [Int.tmod_eq_emod_of_nonneg (by omega)]; rfl
            have hml := Nat.mod_lt m h0
            obtain ⟨gn, on, capn, en, hgn, -, zn, hzn⟩ := HNL.out.atS (m % nl.length) hml
            simp only [Value.slice.injEq] at en
            obtain ⟨rfl, -, rfl⟩ := en
            go_wp2_with fail
            go_meet
            exact ⟨_, rfl, hzn, rfl⟩
        · go_wp2_with fail
          go_meet
          exact ⟨_, rfl, by decide, rfl⟩
      case rest =>
        obtain ⟨nm, rfl, hnm, rfl⟩ := hcut
        have hfl : ∀ e ∈ x.all, e.2.2.2.2.2.length ≤ 1000000 := fun e he => by have := HRE.out.flds e he; omega
        have hpos := HRE.out.good.range nm
        have hstr := HRE.out.str nm
        have HFL := hid hfl
        have HPOS := hid hpos
        clear hfl hpos
        go_wp2_with fail
        refine (All_idx _ _ g x (HI.out.ext HX3.out) (by omega) HFL.out 0 100000 (by decide) (by decide)).mono ?_
        rintro e w4 ⟨v4, rfl, hv4, hx4⟩
        rw [show (x.all.drop 0).take 100000 = x.all from by rw [List.drop_zero, List.take_of_length_le (by omega)]] at hv4
        obtain ⟨a4, c4, rfl, -, -⟩ := hv4.slice
        have HV4 := hid hv4
        have HX4 := hid (HX3.out.trans hx4)
        clear hv4 hx4
        go_wp2_with fail
        refine (Stream_idx _ _ g x (HI.out.ext HX4.out) (by omega) HFL.out nm hnm HPOS.out (by omega) 0 100000 (by decide) (by decide)).mono ?_
        rintro e w5 ⟨v5, S5, rfl, hv5, -, hx5⟩
        rw [show ((x.str nm).drop 0).take 100000 = x.str nm from by rw [List.drop_zero, List.take_of_length_le (by omega)]] at hv5
        have hl5 : (atF x (x.str nm)).length ≤ 640 := by rw [atF, List.length_map]; omega
        obtain ⟨a5, c5, rfl⟩ := hv5.slice
        have HV5 := hid hv5.rdT
        have HX5 := hid (HX4.out.trans hx5)
        have HX45 := hid hx5
        clear hv5 hx5
        have hs25 := HX5.out.size
        go_wp2_with fail
        go_loopw [15, 16, 17] (fun u15 u16 u17 wr => ∃ (t : Nat) (S : Nat → Prop), u17 = .int .i64 t ∧ t ≤ x.all.length + 1000 ∧ OwnS rEnt 71 wr w5.heap.size S u15 (x.all.take t) ∧ OwnS rEnt 71 wr w5.heap.size S u16 (atF x ((x.str nm).take t)) ∧ (∀ k, S k → w5.heap.size ≤ k ∧ k < wr.heap.size) ∧ (∀ k, u15.ownBlock = some k → ¬ u16.ownBlock = some k) ∧ Ext w5 wr) (fun _ _ u17 _ => x.all.length + 1001 - (intOf u17).toNat)
        case atStart => exact ⟨0, fun _ => False, rfl, by omega, OwnS.nil _ _ _ _ _, OwnS.nil _ _ _ _ _, fun _ h => h.elim, fun k h => by simp [Value.ownBlock] at h, Ext.refl _⟩
        case round =>
          obtain ⟨wo, rfl⟩ : ∃ wo : World, wo = wr := ⟨_, rfl⟩
          obtain ⟨t, S, rfl, ht, ho1, ho2, hS, hne, hx⟩ := hrel
          obtain ⟨A, hA⟩ : ∃ A, A = x.all.take t := ⟨_, rfl⟩
          obtain ⟨B, hB⟩ : ∃ B, B = atF x ((x.str nm).take t) := ⟨_, rfl⟩
          rw [← hA] at ho1
          rw [← hB] at ho2
          obtain ⟨aa, ac, rfl⟩ := ho1.slice
          obtain ⟨ba, bc, rfl⟩ := ho2.slice
          have hla : A.length ≤ 640 := by rw [hA, List.length_take]; omega
          have hlb : B.length ≤ 640 := by rw [hB, atF, List.length_map, List.length_take]; omega
          have HO1 := hid ho1
          have HO2 := hid ho2
          have HL1 := hid (fun k hk => ho1.lt k hk)
          have HL2 := hid (fun k hk => ho2.lt k hk)
          have HSS := hid hS
          have HNE := hid hne
          have HA := hid hA
          have HB := hid hB
          have HX := hid hx
          have hsx := hx.size
          clear ho1 ho2 hS hne hx hA hB
          by_cases hgo : t ≤ x.all.length
          · obtain ⟨L1, hL1⟩ : ∃ L1, L1 = (x.all.drop t).take n := ⟨_, rfl⟩
            obtain ⟨L2, hL2⟩ : ∃ L2, L2 = atF x (((x.str nm).drop t).take n) := ⟨_, rfl⟩
            have hk1 : L1.length ≤ n := by rw [hL1, List.length_take]; omega
            have hk2 : L2.length ≤ n := by rw [hL2, atF, List.length_map, List.length_take]; omega
            have HL3 := hid hL1
            have HL4 := hid hL2
            clear hL1 hL2
            go_wp2_with fail
            refine (All_idx2 _ _ g x (HI.out.ext (HX5.out.trans HX.out)) (by omega) HFL.out t n (by omega) (by omega)).mono ?_
            rintro e w6 ⟨v6, S6, rfl, hv6, hS6, hx6⟩
            rw [← HL3.out] at hv6
            obtain ⟨a6, c6, rfl⟩ := hv6.slice
            have HV6 := hid hv6
            have HS6 := hid hS6
            have HX6 := hid hx6
            have hs6 := hx6.size
            clear hv6 hS6 hx6
            go_wp2_with fail
            refine (Stream_idx _ _ g x (HI.out.ext (HX5.out.trans (HX.out.trans HX6.out))) (by omega) HFL.out nm hnm HPOS.out (by omega) t n (by omega) (by omega)).mono ?_
            rintro e w7 ⟨v7, S7, rfl, hv7, hS7, hx7⟩
            rw [← HL4.out] at hv7
            obtain ⟨a7, c7, rfl⟩ := hv7.slice
            have HV7 := hid hv7
            have HS7 := hid hS7
            have HX7 := hid hx7
            have hs7 := hx7.size
            clear hv7 hS7 hx7
            obtain ⟨SN, hSN⟩ : ∃ SN : Nat → Prop, SN = fun k => S k ∨ (wo.heap.size ≤ k ∧ k < w7.heap.size) := ⟨_, rfl⟩
            have HO3 := hid (show OwnS rEnt 71 w7 w5.heap.size SN (.slice aa A.length ac) A from (HO1.out.ext (HX6.out.trans HX7.out)).widen (fun k hk _ => by rw [hSN]; exact .inl hk) (fun k hk h => by
              rw [hSN] at h
              rcases h with h | h
              · obtain ⟨_, _, _, h5, _⟩ := HO1.out
                exact h5 k hk h
              · have := (HL1.out k hk).2; omega))
            have HO4 := hid (show OwnS rEnt 71 w7 w5.heap.size SN (.slice ba B.length bc) B from (HO2.out.ext (HX6.out.trans HX7.out)).widen (fun k hk _ => by rw [hSN]; exact .inl hk) (fun k hk h => by
              rw [hSN] at h
              rcases h with h | h
              · obtain ⟨_, _, _, h5, _⟩ := HO2.out
                exact h5 k hk h
              · have := (HL2.out k hk).2; omega))
            have hr6 := (HV6.out.ext HX7.out).rd.mono (S' := SN) (fun k hk _ => by
              rw [hSN]
              rcases hk with hk | hk
              · exact .inr ⟨(HS6.out k hk).1, by have := (HS6.out k hk).2; omega⟩
              · have := HV6.out.lt k hk; exact .inr ⟨by omega, by omega⟩)
            have hr7 := HV7.out.rd.mono (S' := fun k => w6.heap.size ≤ k ∧ k < w7.heap.size) (fun k hk _ => by
              rcases hk with hk | hk
              · exact HS7.out k hk
              · exact HV7.out.lt k hk)
            obtain ⟨gs6, hgs6, hsrc6, hg6⟩ := hr6.src Try.underlying49
            have hgl6 : gs6.length = L1.length := by rw [hgs6, List.length_map]
            have HR7 := hid hr7
            have HGS6 := hid hgs6
            have HSRC6 := hid hsrc6
            have HG6 := hid hg6
            have HSN := hid hSN
            have HSNL := hid (show ∀ k, SN k → w5.heap.size ≤ k ∧ k < w7.heap.size from fun k hk => by
              rw [hSN] at hk
              rcases hk with hk | hk
              · have := HSS.out k hk; omega
              · omega)
            clear hr6 hr7 hgs6 hsrc6 hg6 hSN
            go_upto_region 24 with (at_builtin; go_must (refine wl_appS rEnt rfl _ _ _ _ _ _ 80 rfl Try.underlying49 infoEnt rfl w5.heap.size SN (.slice aa A.length ac) A rfl HO3.out (.slice a6 L1.length c6) gs6 rfl HSRC6.out HG6.out (fun k hk => (HSNL.out k hk).2) (by omega) (by omega) (by omega) ?_; intro v8 w8 k1 k2 k3; rw [← HGS6.out] at k1; have HA8 := hid k1; have HG8 := hid k2; have HN8 := hid k3; obtain ⟨a8, c8, rfl⟩ := k1.slice; clear k1 k2 k3))
            have hs8 := HG8.out.size
            have HO5 := hid (HO4.out.kept ((keep_grown HG8.out).mono fun k hk hl e => by
              have e' := e.symm
              rcases hk with hk | hk
              · obtain ⟨_, _, _, h5, _⟩ := HO3.out
                exact h5 k e' hk
              · exact HNE.out k e' hk))
            have hr8 := (HR7.out.kept ((keep_grown HG8.out).mono fun k hk hl e => by
              have e' := e.symm
              have h1 := (HL1.out k e').2
              have h2 := hk.1
              omega)).mono (S' := SN) (fun k hk _ => by rw [HSN.out]; exact .inr ⟨by omega, hk.2⟩)
            obtain ⟨gs7, hgs7, hsrc7, hg7⟩ := hr8.src Try.underlying49
            have hgl7 : gs7.length = L2.length := by rw [hgs7, List.length_map]
            have HGS7 := hid hgs7
            have HSRC7 := hid hsrc7
            have HG7 := hid hg7
            clear hr8 hgs7 hsrc7 hg7
            go_wp2_with (at_builtin; go_must (refine wl_appS rEnt rfl _ _ _ _ _ _ 80 rfl Try.underlying49 infoEnt rfl w5.heap.size SN (.slice ba B.length bc) B rfl HO5.out (.slice a7 L2.length c7) gs7 rfl HSRC7.out HG7.out (fun k hk => by have := (HSNL.out k hk).2; omega) (by omega) (by omega) (by omega) ?_; intro v9 w9 k1 k2 k3; rw [← HGS7.out] at k1; have HA9 := hid k1; have HG9 := hid k2; have HN9 := hid k3; obtain ⟨a9, c9, rfl⟩ := k1.slice; clear k1 k2 k3))
            have hs9 := HG9.out.size
            go_roundw
            case rel =>
              simp only [← List.length_append]
              have hN8 : ∀ k, (Value.slice a8 (A ++ L1).length c8).ownBlock = some k → ¬ (Value.slice ba B.length bc).ownBlock = some k := fun k hk e => by
                rcases HN8.out k hk with h | h
                · exact HNE.out k h e
                · have := (HL2.out k e).2; omega
              refine ⟨t + n, SN, by go_num, by omega, ?_, ?_, fun k hk => by have := HSNL.out k hk; omega, ?_, ?_⟩
              · rw [take_more, ← HA.out, ← HL3.out]
                refine HA8.out.kept ((keep_grown HG9.out).mono fun k hk hl e => ?_)
                have e' := e.symm
                rcases hk with hk | hk
                · obtain ⟨_, _, _, h5, _⟩ := HO4.out
                  exact h5 k e' hk
                · exact hN8 k hk e'
              · have hcat : atF x ((x.str nm).take (t + n)) = B ++ L2 := by rw [take_more, HB.out, HL4.out]; simp [atF]
                rw [hcat]
                exact HA9.out
              · intro k hk e
                rcases HN9.out k e with h | h
                · exact hN8 k hk h
                · have := (HA8.out.lt k hk).2; omega
              · exact ((HX.out.trans (HX6.out.trans HX7.out)).grown HG8.out (fun k hk => (HL1.out k hk).1)).grown HG9.out (fun k hk => (HL2.out k hk).1)
            case measure => simp [intOf]; omega
          · have hA2 : A = x.all := by rw [HA.out, List.take_of_length_le (by omega)]
            have hB2 : B = atF x (x.str nm) := by rw [HB.out, List.take_of_length_le (by omega)]
            have HA2 := hid hA2
            have HB2 := hid hB2
            clear hA2 hB2
            go_wp2_with fail
            refine (SameEntries_any wo _ _ _ _ A x.all HO1.out.rdT (HV4.out.ext (HX45.out.trans HX.out))).mono ?_
            rintro e w8 ⟨rfl, hx8⟩
            rw [decide_eq_true HA2.out]
            have HX8 := hid hx8
            clear hx8
            go_wp2_with fail
            refine (SameEntries_any w8 _ _ _ _ B _ (HO2.out.rdT.ext HX8.out) (HV5.out.ext (HX.out.trans HX8.out))).mono ?_
            rintro e w9 ⟨rfl, hx9⟩
            rw [decide_eq_true HB2.out]
            have HX9 := hid hx9
            clear hx9
            go_wp2_with fail
            go_ret
            exact ⟨rfl, HX1.out.trans (HX2.out.trans (HX5.out.trans (HX.out.trans (HX8.out.trans (HX9.out.trans (by show Ext w9 _; (· repeat (first | (with_reducible assumption) | exact Ext.refl _ | refine Ext.alloc ?_ _ | refine Ext.drew ?_ | refine Ext.drewN ?_ _ | (apply Ext.snart; (with_reducible assumption))))))))))⟩
end Go.Proofs.Ythobhkmphjnlaaa
