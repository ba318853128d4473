/- InodeShrinks, walked. -/
import Derived.Test.YtbpcgfplokkfpaaGrown
import Derived.Test.YtbpcgfplokkfpaaSameI
namespace Go.Proofs.Ytbpcgfplokkfpaa
open Go.RowKit
set_option linter.unusedVariables false
set_option linter.unusedSimpArgs false

theorem sizeI : (Try.prog.info? 3).map (·.size) = some 1 := by kernel_rfl
theorem RdI.cut {w : World} {a : Option Addr} {cap n : Nat} {l : List Int} (h : RdI w (.slice a n cap) l) (lo hi : Nat) (h1 : lo ≤ hi) (h2 : hi ≤ l.length) : RdI w (.slice (cutAt a cap lo 1) (hi - lo) (cap - lo)) ((l.take hi).drop lo) := by
  obtain ⟨a', c', e, hc, -⟩ := h.slice
  simp only [Value.slice.injEq] at e
  obtain ⟨rfl, rfl, rfl⟩ := e
  have h3 := Rd.sub h lo hi cap h1 h2 (by omega) (Nat.le_refl _) (cutAt a cap lo 1) (fun g o e hlt => by
    subst e
    unfold cutAt
    rw [if_neg (by omega)]
    simp [Addr.add])
  unfold RdI
  have e1 : ((l.take hi).drop lo).length = hi - lo := by rw [List.length_drop, List.length_take]; omega
  have e2 : ivs ((l.take hi).drop lo) = ((ivs l).drop (lo * 1)).take ((hi - lo) * 1) := by
    unfold ivs
    rw [Nat.mul_one, Nat.mul_one, ← List.map_drop, ← List.map_take, List.drop_take]
  rw [e1, e2]
  exact h3

set_option maxRecDepth 100000 in
set_option maxHeartbeats 8000000 in
theorem inodeShrinks_walk (w : World) (v : Value) (zs : List Int) (rd : RdS rI w (fun k => k < w.heap.size) v zs) (c : Int) (hc : -9223372036854775808 ≤ c ∧ c ≤ 9223372036854775807) (u : Value) (ts : List Int) (rdt : RdS rI w (fun k => k < w.heap.size) u ts) :
    Calls Try.prog 9 #[v, .int .i64 c, u] w fun e w' => e = .returned (.bool true) ∧ Below w.heap.size w w' := by
  obtain ⟨hr, hz, -⟩ := rdS_ints rd
  obtain ⟨hu, htz, -⟩ := rdS_ints rdt
  clear rd rdt
  obtain ⟨ua, uc, rfl, -⟩ := hu.slice
  have HU := hid hu
  clear hu
  go_enter Try.func9, Try.ntmps9
  go_wp2_with (first | (go_at_call 16; go_must (refine (awake6_any _).mono ?_; rintro e w' ⟨rfl, hb'⟩; have hx' := Ext.of hb'; clear hb')))
  refine Calls.mono (grown_any _ _ zs (RdI.ext hr (by (· repeat (first | (with_reducible assumption) | exact Ext.refl _ | refine Ext.alloc ?_ _ | refine Ext.drew ?_ | refine Ext.drewN ?_ _ | (apply Ext.snart; (with_reducible assumption)))))) hz _ hc) ?_
  have hxa := hx'
  rintro e w' ⟨g, q, s, L, lv, rfl, HN, HO, hs24, HI, hg', hq', hap', hb'⟩
  have hx' := Ext.of hb'
  clear hb'
  have HAP := hid (fun k hk => (hap' k hk).1)
  have hx0 : Ext w w' := by (· repeat (first | (with_reducible assumption) | exact Ext.refl _ | refine Ext.alloc ?_ _ | refine Ext.drew ?_ | refine Ext.drewN ?_ _ | (apply Ext.snart; (with_reducible assumption))))
  have HII := hid (HI.low (base' := w.heap.size) hxa.size)
  have hg0 : w.heap.size ≤ g := by have := hxa.size; omega
  obtain ⟨al, cl, rfl, -⟩ := HI.rd.slice
  have hbk := HO.blk
  have HBK := hid hbk
  have HN0 := hid HN
  have HO0 := hid HO
  have hl64 := HO.len64
  clear hq' hap' HI hxa hx' hbk HN HO hg' hr
  go_wp2_with fail
  go_loopw [11, 12] (fun u11 u12 wr => ∃ i left : Nat, ∃ q' : Option Nat, ∃ s' : Int, i ≤ ts.length + 1 ∧ i ≤ 30 ∧ u12 = .int .i64 i ∧ u11 = .int .i64 left ∧ left ≤ L.length ∧ NodeAt wr g q' s' (L.take left) ∧ NodeOk s' (L.take left) ∧ s' ≤ 24000 ∧ OwnI wr w.heap.size (.slice al L.length cl) L ∧ ((i = ts.length + 1 ∨ i = 30) → s' = 0) ∧ Ext w wr) (fun _ i _ => 31 - (intOf i).toNat)
  case atStart => exact ⟨0, L.length, q, s, by omega, by omega, rfl, rfl, Nat.le_refl _, by rw [List.take_length]; exact HN0.out, by rw [List.take_length]; exact HO0.out, hs24, HII.out, by omega, hx0⟩
  case round =>
    obtain ⟨wo, rfl⟩ : ∃ wo : World, wo = wr := ⟨_, rfl⟩
    obtain ⟨i, left, q', s', hi, hi30, rfl, rfl, hleft, HN, HO, hs24', hown, hend, hxw⟩ := hrel
    have HI := hid hown
    have HEND := hid hend
    have hs1 := HO.lo
    clear hown hend
    have hLt : (L.take left).length = left := by rw [List.length_take]; omega
    have hlen := HO.len
    rw [hLt] at hlen
    have HLEN := hid hlen
    clear hlen hLt
    by_cases hlt : i ≤ ts.length ∧ i < 30
    · obtain ⟨hlt1, hlt2⟩ := hlt
      by_cases hst : i < ts.length ∧ i < 29
      · obtain ⟨hst1, hst2⟩ := hst
        obtain ⟨gu, ou, cu, e, hgu, d0⟩ := (HU.out.ext hxw).at i hst1
        simp only [Value.slice.injEq] at e
        obtain ⟨rfl, -, rfl⟩ := e
        have hzi := htz _ (List.getElem_mem hst1)
        generalize ts[i] = z at d0 hzi
        have hp := pickF_lt z (s' + 1).toNat (by omega)
        obtain ⟨p, HP⟩ : ∃ p, Hid (pickF z (s' + 1).toNat = p) := ⟨_, hid rfl⟩
        rw [HP.out] at hp
        have i1 : (i : Int) < (ts.length : Int) := by omega
        have i3 : (0 : Int) ≤ (i : Int) := by omega
        have HT0 := hid (show (i = ts.length ∨ i = 29) → (p : Int) = 0 by omega)
        go_wp2_with fail
        go_quiet (first | (go_at_call 18; exact quiet_left (nodeSize_any _ _ _ _ _ (NodeAt.ext HN (by (· repeat (first | (with_reducible assumption) | exact Ext.refl _ | refine Ext.alloc ?_ _ | refine Ext.drew ?_ | refine Ext.drewN ?_ _ | (apply Ext.snart; (with_reducible assumption)))))))) | (go_at_call 22; exact quiet_left (Pick_any _ z (s' + 1) hzi (by omega) (by omega))))
        rw [HP.out]
        go_wp2_with fail
        have HENDT := hid (show (i + 1 = ts.length + 1 ∨ i + 1 = 30) → (p : Int) = 0 by omega)
        have hT0 : 0 ≤ ((p : Nat) : Int) := by omega
        have hT1 : ((p : Nat) : Int) ≤ s' := by omega
        refine Calls.mono (nodeCut_any _ g q' s' ((p : Nat) : Int) _ (NodeAt.ext HN (by (· repeat (first | (with_reducible assumption) | exact Ext.refl _ | refine Ext.alloc ?_ _ | refine Ext.drew ?_ | refine Ext.drewN ?_ _ | (apply Ext.snart; (with_reducible assumption)))))) HO hT0 hT1) ?_
        rintro e w3 ⟨gv, q3, rfl, HN3, HG, hk3, hq3, hap3, hnil3⟩
        have hnm := nb_mono hT1
        have hn0 := nb_lo hT0
        have hlen := HLEN.out
        have hx3 : Ext w w3 := (show Ext w _ by (· repeat (first | (with_reducible assumption) | exact Ext.refl _ | refine Ext.alloc ?_ _ | refine Ext.drew ?_ | refine Ext.drewN ?_ _ | (apply Ext.snart; (with_reducible assumption))))).keepStep hk3 hg0
        have hI3 : OwnI w3 w.heap.size (.slice al L.length cl) L := (OwnI.ext HI.out (by (· repeat (first | (with_reducible assumption) | exact Ext.refl _ | refine Ext.alloc ?_ _ | refine Ext.drew ?_ | refine Ext.drewN ?_ _ | (apply Ext.snart; (with_reducible assumption)))))).keep hk3 (fun k hk => HAP.out k hk)
        obtain ⟨K, hK⟩ : ∃ K, K = (nb ((p : Nat) : Int)).toNat := ⟨_, rfl⟩
        rw [← hK] at HN3 HG hnil3
        obtain ⟨d, rfl⟩ : ∃ d, left = K + d := ⟨left - K, by omega⟩
        have hnbT : nb ((p : Nat) : Int) = (K : Int) := by omega
        have hHN : NodeAt w3 g q3 ((p : Nat) : Int) (L.take K) := by rw [List.take_take, Nat.min_eq_left (by omega)] at HN3; exact HN3
        have hHO : NodeOk ((p : Nat) : Int) (L.take K) := ⟨hT0, by omega, by rw [hnbT, List.length_take]; omega, fun b hb => HBK.out b (List.mem_of_mem_take hb)⟩
        have HCUT := hid (RdI.cut hI3.rd K (K + d) (by omega) hleft)
        have hML : ((L.take (K + d)).drop K).length = d := by rw [List.length_drop, List.length_take]; omega
        have hMB : ∀ b ∈ (L.take (K + d)).drop K, 0 ≤ b ∧ b < 512 := fun b hb => HBK.out b (List.mem_of_mem_take (List.mem_of_mem_drop hb))
        have HXE := hid (expand_whole ((L.take (K + d)).drop K))
        have HXI := hid (whole_in hMB)
        have hXL := whole_len ((L.take (K + d)).drop K)
        generalize hMM : (L.take (K + d)).drop K = M at HG HCUT hML hMB HXE HXI hnil3 hXL
        generalize whole M = X at HG HXE HXI hXL
        have HNB := hid hnbT
        have HN4 := hid hHN
        have HO4 := hid hHO
        have HI3 := hid hI3
        have HG3 := hid HG.rd
        obtain ⟨ga, gc, rfl, -⟩ := HG.rd.slice
        have hd64 : K + d ≤ 64 := by omega
        rw [show K + d - K = d from by omega] at HCUT
        have hlc : L.length ≤ cl := by obtain ⟨_, _, e, h, -⟩ := hI3.rd.slice; simp only [Value.slice.injEq] at e; obtain ⟨-, -, rfl⟩ := e; exact h
        clear HN HO HI hHN hHO hI3 HG hnil3 hap3 hq3 hk3 hMM hMB HN3 hnm hn0 hlen hK hnbT
        have hX3 := hid hx3
        go_wp2_with fail
        go_loopw [16, 17] (fun u16 u17 wr => ∃ k : Nat, k ≤ X.length ∧ u17 = .int .i64 k ∧ OwnI wr w3.heap.size u16 (expand (X.take k)) ∧ Ext w3 wr) (fun _ k _ => X.length - (intOf k).toNat)
        case atStart => exact ⟨0, by omega, rfl, by simpa [expand] using OwnI.nil _ _, Ext.refl _⟩
        case round =>
          obtain ⟨wp, rfl⟩ : ∃ wp : World, wp = wr := ⟨_, rfl⟩
          obtain ⟨k, hk, rfl, hown, hxk⟩ := hrel
          have HB := hid hown
          clear hown
          by_cases hkl : k < X.length
          · have htk := List.take_succ_eq_append_getElem hkl
            have hXr := HXI.out _ (List.getElem_mem hkl)
            obtain ⟨g6, o6, c6, e, hg6, c0, c1⟩ := HG3.out.at k hkl
            simp only [Value.slice.injEq] at e
            obtain ⟨rfl, -, rfl⟩ := e
            have HEX := hid (show expand (X.take (k + 1)) = expand (X.take k) ++ expand [X[k]] by rw [htk, expand_append])
            have hpre := expand_prefix X (k + 1)
            rw [HEX.out, List.length_append, HXE.out, hML] at hpre
            clear htk
            generalize X[k] = r at c0 c1 HEX hXr hpre
            obtain ⟨f, m⟩ := r
            dsimp only at c0 c1 hXr
            obtain ⟨hf0, hm1, hfm⟩ := hXr
            obtain ⟨m, rfl⟩ := Int.eq_ofNat_of_zero_le (show 0 ≤ m by omega)
            rw [expand_one_len] at hpre
            have cc0 := hid c0
            have cc1 := hid c1
            have k1 : (k : Int) < (X.length : Int) := by omega
            have k3 : (0 : Int) ≤ (k : Int) := by omega
            clear c0 c1
            go_wp2_with fail
            go_loopw [16, 18] (fun u16 u18 wr => ∃ j : Nat, j ≤ m ∧ u18 = .int .i64 j ∧ OwnI wr w3.heap.size u16 (expand (X.take k) ++ expand [(f, (j : Int))]) ∧ Ext w3 wr) (fun _ j _ => m - (intOf j).toNat)
            case atStart => exact ⟨0, by omega, rfl, by simpa [expand] using HB.out, hxk⟩
            case round =>
              obtain ⟨j, hj, rfl, hown, hxi⟩ := hrel
              have HOWN := hid hown
              clear hown
              have c0 := Ext.cellS hxi cc0.out
              have c1 := Ext.cellS hxi cc1.out
              have hel : (expand [(f, (j : Int))]).length = j := by rw [expand_one_len]; simp
              have hll : (expand (X.take k) ++ expand [(f, (j : Int))]).length ≤ 64 := by rw [List.length_append, hel]; omega
              have HES := hid (expand_one_succ f j)
              clear hel
              by_cases hjm : j < m
              · obtain ⟨a9, c9, rfl, -⟩ := HOWN.out.rd.slice
                have HSI := hid (src_int wr wr.heap.size (f + (j : Int)) rfl)
                go_wp2_with (at_builtin; go_must (refine wl_appI rfl _ _ _ rfl w3.heap.size _ _ rfl (HOWN.out.ext ((Ext.refl wr).alloc (.cells #[.int .i64 (f + (j : Int))] 3))) _ [f + (j : Int)] rfl HSI.out (by simp only [List.length_singleton]; omega) (by have := hxi.size; simp; omega) ?_; intro v9 w9 k1 k4 k5 k6))
                go_roundw
                case rel => exact ⟨j + 1, by omega, by go_num, by rw [HES.out, ← List.append_assoc]; exact k1, (hxi.alloc _).grown k4 (fun k hk => (HOWN.out.lt k hk).1)⟩
                case measure => simp [intOf]; omega
              · obtain rfl : j = m := by omega
                go_wp2_with fail
                go_roundw
                case rel => exact ⟨k + 1, by omega, by go_num, by rw [HEX.out]; exact HOWN.out, hxi⟩
                case measure => simp [intOf]; omega
          · obtain rfl : k = X.length := by omega
            have hb := HB.out
            rw [List.take_length, HXE.out] at hb
            obtain ⟨ba, bc, rfl, -⟩ := hb.rd.slice
            have HBM := hid hb.rd
            rw [hML] at HBM ⊢
            clear hb HB
            have HN := NodeAt.ext HN4.out hxk
            have HO := HO4.out
            go_wp2_with (first | ((with_reducible refine at_slice ?_); go_must (refine wl_slice_lh rfl rfl Try.underlying22 sizeI rfl rfl rfl K (K + d) ?_ ?_ ?_ ?_ ?_; (first | omega | (simp only [go_sem]; omega)); omega; omega; omega; rw [show K + d - K = d from by omega])) | (go_at_call 44; go_must (refine (SameInts_any _ _ _ M M HBM.out (HCUT.out.ext hxk)).mono ?_; rw [decide_eq_true rfl]; rintro e w' ⟨rfl, hb'⟩; have hx' := Ext.of hb'; clear hb')) | (go_at_call 20; go_must (refine Calls.mono (nodeBlocks_any _ _ _ _ _ (NodeAt.ext HN ?_) HO) ?_; (· repeat (first | (with_reducible assumption) | exact Ext.refl _ | refine Ext.alloc ?_ _ | refine Ext.drew ?_ | refine Ext.drewN ?_ _ | (apply Ext.snart; (with_reducible assumption)))); rw [HNB.out]; rintro e w' ⟨rfl, rfl⟩)) | (go_at_call 18; go_must (refine Calls.mono (nodeSize_any _ _ _ _ _ (NodeAt.ext HN ?_)) ?_; (· repeat (first | (with_reducible assumption) | exact Ext.refl _ | refine Ext.alloc ?_ _ | refine Ext.drew ?_ | refine Ext.drewN ?_ _ | (apply Ext.snart; (with_reducible assumption)))); rintro e w' ⟨rfl, rfl⟩)))
            go_roundw
            case rel => exact ⟨i + 1, K, q3, ((p : Nat) : Int), by omega, by omega, by go_num, by go_num, by omega, NodeAt.ext HN4.out (by (· repeat (first | (with_reducible assumption) | exact Ext.refl _ | refine Ext.alloc ?_ _ | refine Ext.drew ?_ | refine Ext.drewN ?_ _ | (apply Ext.snart; (with_reducible assumption))))), HO, by omega, OwnI.ext HI3.out (by (· repeat (first | (with_reducible assumption) | exact Ext.refl _ | refine Ext.alloc ?_ _ | refine Ext.drew ?_ | refine Ext.drewN ?_ _ | (apply Ext.snart; (with_reducible assumption))))), HENDT.out, hX3.out.trans (by (· repeat (first | (with_reducible assumption) | exact Ext.refl _ | refine Ext.alloc ?_ _ | refine Ext.drew ?_ | refine Ext.drewN ?_ _ | (apply Ext.snart; (with_reducible assumption)))))⟩
            case measure => simp [intOf]; omega
      · have hst2 : (i = ts.length) ∨ (i < ts.length ∧ i = 29) := by omega
        clear hst
        rcases hst2 with hst | ⟨hst, hst2⟩
        all_goals
          go_wp2_with fail
          have hT0 : 0 ≤ (0 : Int) := by omega
          have hT1 : (0 : Int) ≤ s' := by omega
          refine Calls.mono (nodeCut_any _ g q' s' (0 : Int) _ (NodeAt.ext HN (by (· repeat (first | (with_reducible assumption) | exact Ext.refl _ | refine Ext.alloc ?_ _ | refine Ext.drew ?_ | refine Ext.drewN ?_ _ | (apply Ext.snart; (with_reducible assumption)))))) HO hT0 hT1) ?_
          rintro e w3 ⟨gv, q3, rfl, HN3, HG, hk3, hq3, hap3, hnil3⟩
          have hnm := nb_mono hT1
          have hn0 := nb_lo hT0
          have hlen := HLEN.out
          have hx3 : Ext w w3 := (show Ext w _ by (· repeat (first | (with_reducible assumption) | exact Ext.refl _ | refine Ext.alloc ?_ _ | refine Ext.drew ?_ | refine Ext.drewN ?_ _ | (apply Ext.snart; (with_reducible assumption))))).keepStep hk3 hg0
          have hI3 : OwnI w3 w.heap.size (.slice al L.length cl) L := (OwnI.ext HI.out (by (· repeat (first | (with_reducible assumption) | exact Ext.refl _ | refine Ext.alloc ?_ _ | refine Ext.drew ?_ | refine Ext.drewN ?_ _ | (apply Ext.snart; (with_reducible assumption)))))).keep hk3 (fun k hk => HAP.out k hk)
          obtain ⟨K, hK⟩ : ∃ K, K = (nb (0 : Int)).toNat := ⟨_, rfl⟩
          rw [← hK] at HN3 HG hnil3
          obtain ⟨d, rfl⟩ : ∃ d, left = K + d := ⟨left - K, by omega⟩
          have hnbT : nb (0 : Int) = (K : Int) := by omega
          have hHN : NodeAt w3 g q3 (0 : Int) (L.take K) := by rw [List.take_take, Nat.min_eq_left (by omega)] at HN3; exact HN3
          have hHO : NodeOk (0 : Int) (L.take K) := ⟨hT0, by omega, by rw [hnbT, List.length_take]; omega, fun b hb => HBK.out b (List.mem_of_mem_take hb)⟩
          have HCUT := hid (RdI.cut hI3.rd K (K + d) (by omega) hleft)
          have hML : ((L.take (K + d)).drop K).length = d := by rw [List.length_drop, List.length_take]; omega
          have hMB : ∀ b ∈ (L.take (K + d)).drop K, 0 ≤ b ∧ b < 512 := fun b hb => HBK.out b (List.mem_of_mem_take (List.mem_of_mem_drop hb))
          have HXE := hid (expand_whole ((L.take (K + d)).drop K))
          have HXI := hid (whole_in hMB)
          have hXL := whole_len ((L.take (K + d)).drop K)
          generalize hMM : (L.take (K + d)).drop K = M at HG HCUT hML hMB HXE HXI hnil3 hXL
          generalize whole M = X at HG HXE HXI hXL
          have HNB := hid hnbT
          have HN4 := hid hHN
          have HO4 := hid hHO
          have HI3 := hid hI3
          have HG3 := hid HG.rd
          obtain ⟨ga, gc, rfl, -⟩ := HG.rd.slice
          have hd64 : K + d ≤ 64 := by omega
          rw [show K + d - K = d from by omega] at HCUT
          have hlc : L.length ≤ cl := by obtain ⟨_, _, e, h, -⟩ := hI3.rd.slice; simp only [Value.slice.injEq] at e; obtain ⟨-, -, rfl⟩ := e; exact h
          clear HN HO HI hHN hHO hI3 HG hnil3 hap3 hq3 hk3 hMM hMB HN3 hnm hn0 hlen hK hnbT
          have hX3 := hid hx3
          go_wp2_with fail
          go_loopw [16, 17] (fun u16 u17 wr => ∃ k : Nat, k ≤ X.length ∧ u17 = .int .i64 k ∧ OwnI wr w3.heap.size u16 (expand (X.take k)) ∧ Ext w3 wr) (fun _ k _ => X.length - (intOf k).toNat)
          case atStart => exact ⟨0, by omega, rfl, by simpa [expand] using OwnI.nil _ _, Ext.refl _⟩
          case round =>
            obtain ⟨wp, rfl⟩ : ∃ wp : World, wp = wr := ⟨_, rfl⟩
            obtain ⟨k, hk, rfl, hown, hxk⟩ := hrel
            have HB := hid hown
            clear hown
            by_cases hkl : k < X.length
            · have htk := List.take_succ_eq_append_getElem hkl
              have hXr := HXI.out _ (List.getElem_mem hkl)
              obtain ⟨g6, o6, c6, e, hg6, c0, c1⟩ := HG3.out.at k hkl
              simp only [Value.slice.injEq] at e
              obtain ⟨rfl, -, rfl⟩ := e
              have HEX := hid (show expand (X.take (k + 1)) = expand (X.take k) ++ expand [X[k]] by rw [htk, expand_append])
              have hpre := expand_prefix X (k + 1)
              rw [HEX.out, List.length_append, HXE.out, hML] at hpre
              clear htk
              generalize X[k] = r at c0 c1 HEX hXr hpre
              obtain ⟨f, m⟩ := r
              dsimp only at c0 c1 hXr
              obtain ⟨hf0, hm1, hfm⟩ := hXr
              obtain ⟨m, rfl⟩ := Int.eq_ofNat_of_zero_le (show 0 ≤ m by omega)
              rw [expand_one_len] at hpre
              have cc0 := hid c0
              have cc1 := hid c1
              have k1 : (k : Int) < (X.length : Int) := by omega
              have k3 : (0 : Int) ≤ (k : Int) := by omega
              clear c0 c1
              go_wp2_with fail
              go_loopw [16, 18] (fun u16 u18 wr => ∃ j : Nat, j ≤ m ∧ u18 = .int .i64 j ∧ OwnI wr w3.heap.size u16 (expand (X.take k) ++ expand [(f, (j : Int))]) ∧ Ext w3 wr) (fun _ j _ => m - (intOf j).toNat)
              case atStart => exact ⟨0, by omega, rfl, by simpa [expand] using HB.out, hxk⟩
              case round =>
                obtain ⟨j, hj, rfl, hown, hxi⟩ := hrel
                have HOWN := hid hown
                clear hown
                have c0 := Ext.cellS hxi cc0.out
                have c1 := Ext.cellS hxi cc1.out
                have hel : (expand [(f, (j : Int))]).length = j := by rw [expand_one_len]; simp
                have hll : (expand (X.take k) ++ expand [(f, (j : Int))]).length ≤ 64 := by rw [List.length_append, hel]; omega
                have HES := hid (expand_one_succ f j)
                clear hel
                by_cases hjm : j < m
                · obtain ⟨a9, c9, rfl, -⟩ := HOWN.out.rd.slice
                  have HSI := hid (src_int wr wr.heap.size (f + (j : Int)) rfl)
                  go_wp2_with (at_builtin; go_must (refine wl_appI rfl _ _ _ rfl w3.heap.size _ _ rfl (HOWN.out.ext ((Ext.refl wr).alloc (.cells #[.int .i64 (f + (j : Int))] 3))) _ [f + (j : Int)] rfl HSI.out (by simp only [List.length_singleton]; omega) (by have := hxi.size; simp; omega) ?_; intro v9 w9 k1 k4 k5 k6))
                  go_roundw
                  case rel => exact ⟨j + 1, by omega, by go_num, by rw [HES.out, ← List.append_assoc]; exact k1, (hxi.alloc _).grown k4 (fun k hk => (HOWN.out.lt k hk).1)⟩
                  case measure => simp [intOf]; omega
                · obtain rfl : j = m := by omega
                  go_wp2_with fail
                  go_roundw
                  case rel => exact ⟨k + 1, by omega, by go_num, by rw [HEX.out]; exact HOWN.out, hxi⟩
                  case measure => simp [intOf]; omega
            · obtain rfl : k = X.length := by omega
              have hb := HB.out
              rw [List.take_length, HXE.out] at hb
              obtain ⟨ba, bc, rfl, -⟩ := hb.rd.slice
              have HBM := hid hb.rd
              rw [hML] at HBM ⊢
              clear hb HB
              have HN := NodeAt.ext HN4.out hxk
              have HO := HO4.out
              go_wp2_with (first | ((with_reducible refine at_slice ?_); go_must (refine wl_slice_lh rfl rfl Try.underlying22 sizeI rfl rfl rfl K (K + d) ?_ ?_ ?_ ?_ ?_; (first | omega | (simp only [go_sem]; omega)); omega; omega; omega; rw [show K + d - K = d from by omega])) | (go_at_call 44; go_must (refine (SameInts_any _ _ _ M M HBM.out (HCUT.out.ext hxk)).mono ?_; rw [decide_eq_true rfl]; rintro e w' ⟨rfl, hb'⟩; have hx' := Ext.of hb'; clear hb')) | (go_at_call 20; go_must (refine Calls.mono (nodeBlocks_any _ _ _ _ _ (NodeAt.ext HN ?_) HO) ?_; (· repeat (first | (with_reducible assumption) | exact Ext.refl _ | refine Ext.alloc ?_ _ | refine Ext.drew ?_ | refine Ext.drewN ?_ _ | (apply Ext.snart; (with_reducible assumption)))); rw [HNB.out]; rintro e w' ⟨rfl, rfl⟩)) | (go_at_call 18; go_must (refine Calls.mono (nodeSize_any _ _ _ _ _ (NodeAt.ext HN ?_)) ?_; (· repeat (first | (with_reducible assumption) | exact Ext.refl _ | refine Ext.alloc ?_ _ | refine Ext.drew ?_ | refine Ext.drewN ?_ _ | (apply Ext.snart; (with_reducible assumption)))); rintro e w' ⟨rfl, rfl⟩)))
              go_roundw
              case rel => exact ⟨i + 1, K, q3, (0 : Int), by omega, by omega, by go_num, by go_num, by omega, NodeAt.ext HN4.out (by (· repeat (first | (with_reducible assumption) | exact Ext.refl _ | refine Ext.alloc ?_ _ | refine Ext.drew ?_ | refine Ext.drewN ?_ _ | (apply Ext.snart; (with_reducible assumption))))), HO, by omega, OwnI.ext HI3.out (by (· repeat (first | (with_reducible assumption) | exact Ext.refl _ | refine Ext.alloc ?_ _ | refine Ext.drew ?_ | refine Ext.drewN ?_ _ | (apply Ext.snart; (with_reducible assumption))))), fun _ => rfl, hX3.out.trans (by (· repeat (first | (with_reducible assumption) | exact Ext.refl _ | refine Ext.alloc ?_ _ | refine Ext.drew ?_ | refine Ext.drewN ?_ _ | (apply Ext.snart; (with_reducible assumption)))))⟩
              case measure => simp [intOf]; omega
    · have hex : i = ts.length + 1 ∨ (i ≤ ts.length ∧ i = 30) := by omega
      obtain rfl : s' = 0 := HEND.out (by omega)
      have hl0 : left = 0 := by have := HLEN.out; rw [show nb 0 = 0 from by decide] at this; omega
      subst hl0
      rw [List.take_zero] at HN HO
      clear hlt
      rcases hex with hex | ⟨hex, hex2⟩
      all_goals
        go_wp2_with (first | (go_at_call 18; go_must (refine Calls.mono (nodeSize_any _ _ _ _ _ (NodeAt.ext HN ?_)) ?_; (· repeat (first | (with_reducible assumption) | exact Ext.refl _ | refine Ext.alloc ?_ _ | refine Ext.drew ?_ | refine Ext.drewN ?_ _ | (apply Ext.snart; (with_reducible assumption)))); rintro e w' ⟨rfl, rfl⟩)) | (go_at_call 45; go_must (refine Calls.mono (nodeRuns_any _ _ _ _ _ (NodeAt.ext HN ?_) ?_) ?_; (· repeat (first | (with_reducible assumption) | exact Ext.refl _ | refine Ext.alloc ?_ _ | refine Ext.drew ?_ | refine Ext.drewN ?_ _ | (apply Ext.snart; (with_reducible assumption)))); simp; rintro e w' ⟨v', rfl, -, hv, hb'⟩; obtain rfl := hv rfl; have hx' := Ext.of hb'; clear hb')))
        go_ret
        exact ⟨rfl, by show Ext _ _; (· repeat (first | (with_reducible assumption) | exact Ext.refl _ | refine Ext.alloc ?_ _ | refine Ext.drew ?_ | refine Ext.drewN ?_ _ | (apply Ext.snart; (with_reducible assumption))))⟩
end Go.Proofs.Ytbpcgfplokkfpaa
