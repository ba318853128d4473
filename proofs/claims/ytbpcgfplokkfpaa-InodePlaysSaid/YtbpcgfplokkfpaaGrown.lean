/- The inode laws' own helpers: awake, grown. -/
import Derived.Test.YtbpcgfplokkfpaaNodeA
import Derived.Test.YtbpcgfplokkfpaaInts
import Derived.Test.YtbpcgfplokkfpaaPick
namespace Go.Proofs.Ytbpcgfplokkfpaa
open Go.RowKit
set_option linter.unusedVariables false
set_option linter.unusedSimpArgs false

theorem ExtEnd.ok {w w' : World} {g : Nat} {q : Option Nat} {s n : Int} {L : List Int} {ls : List Run} {e : Ending} (h : ExtEnd w g q s n L ls e w') (hE : extF s n ls = 0) : e = .returned (.int .i64 0) ∧ NodeTo w w' g q (s + n) (L ++ expand ls) := by
  obtain ⟨h1, h2⟩ := h
  rw [if_pos hE, if_pos hE] at h2
  exact ⟨by rw [h1, hE], h2⟩
theorem Ext.keepStep {a w w' : World} {g : Nat} (h : Ext a w) (hk : Keep (fun k => k ≠ g) w w') (hg : a.heap.size ≤ g) : Ext a w' :=
  Below.trans h (hk.below a.heap.size h.size fun k hk e => by omega)

set_option maxRecDepth 100000 in
set_option maxHeartbeats 2000000 in
theorem awake6_any (w : World) : Calls Try.prog 16 #[] w fun e w' => e = .returned (.bool true) ∧ Below w.heap.size w w' := by
  go_enter Try.func16, Try.ntmps16
  have HO : NodeOk 0 [] := NodeOk.empty
  go_wp2_with (first | (go_at_call 39; go_must (refine Calls.mono (nodeNew_any _) ?_; rintro e w' ⟨g, rfl, HN, hg', hb'⟩; have hx' := Ext.of hb'; clear hb')) | (go_at_call 40; go_must (refine Calls.mono (nodeNeed_any _ _ _ _ ((513 : Int)) _ (NodeAt.ext HN ?_) ⟨?_, ?_⟩ ⟨?_, ?_⟩) ?_; (· repeat (first | (with_reducible assumption) | exact Ext.refl _ | refine Ext.alloc ?_ _ | refine Ext.drew ?_ | refine Ext.drewN ?_ _ | (apply Ext.snart; (with_reducible assumption)))); omega; omega; omega; omega; rw [show needF 0 513 = (2, 0) from by decide]; rintro e w' ⟨rfl, hb'⟩; have hx' := Ext.of hb'; clear hb')))
  have HR := (ownR_blk w' w'.heap.size w'.heap.size #[.int .i64 7, .int .i64 2] [(7, 2)] 1 (Nat.le_refl _) rfl rfl (by omega) rfl).rd
  refine Calls.mono (nodeExtend_any _ _ _ _ 513 _ (NodeAt.ext HN ?_) HO ⟨by omega, by omega⟩ _ [(7, 2)] HR (by intro r hr; obtain rfl := List.mem_singleton.1 hr; exact ⟨⟨by decide, by decide⟩, by decide, by decide⟩)) ?_
  (· repeat (first | (with_reducible assumption) | exact Ext.refl _ | refine Ext.alloc ?_ _ | refine Ext.drew ?_ | refine Ext.drewN ?_ _ | (apply Ext.snart; (with_reducible assumption))))
  rintro e w2 he
  obtain ⟨rfl, q2, HN2, hk2, hq2⟩ := he.ok (by decide)
  have hxw : Ext w w' := by (· repeat (first | (with_reducible assumption) | exact Ext.refl _ | refine Ext.alloc ?_ _ | refine Ext.drew ?_ | refine Ext.drewN ?_ _ | (apply Ext.snart; (with_reducible assumption))))
  have hx0 : Ext w w2 := (hxw.alloc _).keepStep hk2 hg'
  clear HN HO hx' hk2 HR hxw
  have HN := HN2
  clear HN2
  have HO : NodeOk (0 + 513) ([] ++ expand [(7, 2)]) := ⟨by decide, by decide, by decide, by decide⟩
  have hstr : nodeB (0 + 513) ([] ++ expand [(7, 2)]) = [129, 4, 1, 7, 2] := by decide +kernel
  have HS := hid hstr
  clear hstr
  go_wp2_with fail
  (refine Calls.mono (nodeAt_any _ _ _ _ ((512 : Int)) ((8 : Int)) _ (NodeAt.ext HN ?_) HO ?_ ?_ ?_) ?_; (· repeat (first | (with_reducible assumption) | exact Ext.refl _ | refine Ext.alloc ?_ _ | refine Ext.drew ?_ | refine Ext.drewN ?_ _ | (apply Ext.snart; (with_reducible assumption)))); omega; omega; (first | assumption | rfl | decide); rintro e w' ⟨rfl, hb'⟩; have hx' := Ext.of hb'; clear hb')
  go_wp2_with fail
  (refine Calls.mono (nodeAt_bad _ _ _ _ ((513 : Int)) _ (NodeAt.ext HN ?_) ⟨?_, ?_⟩ ⟨?_, ?_⟩ ?_) ?_; (· repeat (first | (with_reducible assumption) | exact Ext.refl _ | refine Ext.alloc ?_ _ | refine Ext.drew ?_ | refine Ext.drewN ?_ _ | (apply Ext.snart; (with_reducible assumption)))); omega; omega; omega; omega; omega; rintro e w' ⟨rfl, hb'⟩; have hx' := Ext.of hb'; clear hb')
  go_wp2_with (go_at_call 42; go_must (refine Calls.mono (nodeBytes_any _ _ _ _ _ (NodeAt.ext HN ?_) HO) ?_; (· repeat (first | (with_reducible assumption) | exact Ext.refl _ | refine Ext.alloc ?_ _ | refine Ext.drew ?_ | refine Ext.drewN ?_ _ | (apply Ext.snart; (with_reducible assumption)))); rw [HS.out]; (rintro e w' ⟨v', rfl, ho', hb'⟩; have hr' := rdB_own ho'; obtain ⟨a', c', rfl⟩ := OwnB.slice ho'; (try simp only [List.nil_append, List.length_append, List.length_cons, List.length_nil, Nat.zero_add, Nat.reduceAdd] at ho' hr'); have hx' := Ext.of hb'; clear hb'); have hs' := run_strB hr'))
  go_ret
  exact ⟨rfl, by show Ext _ _; (· repeat (first | (with_reducible assumption) | exact Ext.refl _ | refine Ext.alloc ?_ _ | refine Ext.drew ?_ | refine Ext.drewN ?_ _ | (apply Ext.snart; (with_reducible assumption))))⟩

def GrownEnd (w : World) (e : Ending) (w' : World) : Prop :=
  ∃ g q s L lv, e = .returned (.tuple #[.pointer (some ⟨g, 0, none⟩), lv, .bool true]) ∧ NodeAt w' g q s L ∧ NodeOk s L ∧ s ≤ 24000 ∧ OwnI w' w.heap.size lv L ∧ w.heap.size ≤ g ∧
    (∀ k, q = some k → w.heap.size ≤ k) ∧ (∀ k, lv.ownBlock = some k → k ≠ g ∧ q ≠ some k) ∧ Below w.heap.size w w'

theorem need_ok {s n : Int} (h0 : 0 ≤ s) (h1 : 0 ≤ n) (h2 : s + n ≤ 32768) : needF s n = (nb (s + n) - nb s, 0) := by
  unfold needF; rw [if_neg (by omega), if_neg (by omega)]
theorem ext_nil {s n : Int} (h : needF s n = (0, 0)) : extF s n [] = 0 := by unfold extF; rw [h]; simp [extOk]
theorem ext_one {s n nx : Int} {K : Nat} (h : needF s n = ((K : Int), 0)) (hK : 1 ≤ K) (h0 : 0 ≤ nx) (h1 : nx + K ≤ 512) : extF s n [(nx, (K : Int))] = 0 := by
  unfold extF; rw [h]
  simp [extOk, badRun]
  omega

set_option maxRecDepth 100000 in
set_option maxHeartbeats 4000000 in
theorem grown_any (w : World) (v : Value) (zs : List Int) (hv : RdI w v zs) (hz : ∀ x ∈ zs, -9223372036854775808 ≤ x ∧ x ≤ 9223372036854775807) (c : Int) (hc : -9223372036854775808 ≤ c ∧ c ≤ 9223372036854775807) :
    Calls Try.prog 17 #[v, .int .i64 c] w (GrownEnd w) := by
  have HV := hid hv
  obtain ⟨av, cv, rfl, hc1, hc2⟩ := hv.slice
  clear hv
  have hp4 := pickF_lt c 4 (by omega)
  have HP4 := hid (show ((pickF c (4 : Int).toNat : Nat) : Int) = ((pickF c 4 : Nat) : Int) from rfl)
  generalize hq4 : pickF c 4 = p4 at *
  clear hq4
  go_enter Try.func17, Try.ntmps17
  go_wp2_with (go_at_call 39; go_must (refine Calls.mono (nodeNew_any _) ?_; rintro e w' ⟨g, rfl, HN, hg', hb'⟩; have hx' := Ext.of hb'; clear hb'))
  have hgw := HN.lt
  have HN0 := hid HN
  have HXW := hid hx'
  clear HN hx'
  go_loopw [8, 9, 10] (fun u8 u9 u10 wr => ∃ i nx : Nat, ∃ q L, ∃ s : Int, i ≤ zs.length ∧ i ≤ 20 ∧ u10 = .int .i64 i ∧ u9 = .int .i64 nx ∧ nx ≤ L.length + 3 * i ∧ s ≤ 1199 * (i : Int) ∧ NodeAt wr g q s L ∧ NodeOk s L ∧ OwnI wr w.heap.size u8 L ∧ (∀ k, q = some k → w.heap.size ≤ k) ∧ (∀ k, u8.ownBlock = some k → k ≠ g ∧ q ≠ some k) ∧ Ext w wr) (fun _ _ i _ => 20 - (intOf i).toNat)
  case atStart => exact ⟨0, 0, none, [], 0, by omega, by omega, rfl, rfl, by omega, by omega, HN0.out, NodeOk.empty, OwnI.nil _ _, by simp, by simp [Value.ownBlock], HXW.out⟩
  case round =>
    obtain ⟨wo, rfl⟩ : ∃ wo : World, wo = wr := ⟨_, rfl⟩
    obtain ⟨i, nx, q, L, s, hi, hi20, rfl, rfl, hnx, hs, HN, HO, hown, hq, hap, hxw⟩ := hrel
    have HI := hid hown
    have HQ := hid hq
    have HAP := hid hap
    have hs1 := HO.lo
    have hs2 := HO.hi
    have hl64 := HO.len64
    clear hown hq hap
    obtain ⟨a8, c8, rfl, -⟩ := HI.out.rd.slice
    by_cases hlt : i < zs.length ∧ i < 20
    · obtain ⟨hlt, hlt2⟩ := hlt
      obtain ⟨gl, ol, cl, e, hgl, d0⟩ := (HV.out.ext hxw).at i hlt
      simp only [Value.slice.injEq] at e
      obtain ⟨rfl, -, rfl⟩ := e
      have hzi := hz _ (List.getElem_mem hlt)
      generalize zs[i] = z at d0 hzi
      have hp := pickF_lt z 1200 (by omega)
      have HP := hid (show ((pickF z (1200 : Int).toNat : Nat) : Int) = ((pickF z 1200 : Nat) : Int) from rfl)
      generalize pickF z 1200 = n at *
      have hne := need_ok hs1 (show (0 : Int) ≤ (n : Int) by omega) (by omega)
      have hnm := nb_mono (show s ≤ s + (n : Int) by omega)
      have hnh := nb_hi (show s + (n : Int) ≤ 32768 by omega)
      have hn0 := nb_lo hs1
      obtain ⟨K, hK⟩ := Int.eq_ofNat_of_zero_le (show 0 ≤ nb (s + (n : Int)) - nb s by omega)
      rw [hK] at hne
      have hK64 : K ≤ 64 := by omega
      have HNE := hid hne
      clear hne hK hnm hnh hn0
      have HNOW := hid (ext_ok (n := (n : Int)) (l := []) HO)
      by_cases hK0 : K = 0
      · subst hK0
        have HE0 := hid (ext_nil HNE.out)
        go_wp2_with (first | (go_at_call 22; go_must (refine Calls.mono (Pick_any _ z 1200 ?_ ?_ ?_) ?_; (first | assumption | omega); omega; omega; rw [HP.out]; rintro e w' ⟨rfl, rfl⟩)) | (go_at_call 40; go_must (refine Calls.mono (nodeNeed_any _ _ _ _ ((n : Int)) _ (NodeAt.ext HN ?_) ⟨?_, ?_⟩ ⟨?_, ?_⟩) ?_; (· repeat (first | (with_reducible assumption) | exact Ext.refl _ | refine Ext.alloc ?_ _ | refine Ext.drew ?_ | refine Ext.drewN ?_ _ | (apply Ext.snart; (with_reducible assumption)))); omega; omega; omega; omega; rw [HNE.out]; rintro e w' ⟨rfl, hb'⟩; have hx' := Ext.of hb'; clear hb')) | (go_at_call 41; go_must (refine Calls.mono (nodeExtend_any _ _ _ _ ((n : Int)) _ (NodeAt.ext HN ?_) HO ⟨?_, ?_⟩ _ ([]) ?_ ?_) ?_; (· repeat (first | (with_reducible assumption) | exact Ext.refl _ | refine Ext.alloc ?_ _ | refine Ext.drew ?_ | refine Ext.drewN ?_ _ | (apply Ext.snart; (with_reducible assumption)))); omega; omega; exact RdR.nil _; simp; rintro e w2 he; rcases ExtEnd.ok he HE0.out with ⟨rfl, q2, HN2, hk2, hq2⟩; clear he)))
        have hww : Ext w w2 := (hxw.trans hx').keepStep hk2 hg'
        go_roundw
        case rel =>
          refine ⟨i + 1, nx, q2, L, s + (n : Int), by omega, by omega, by go_num, rfl, by omega, by omega, by simpa [expand] using HN2, by simpa [expand] using (HNOW.out HE0.out).1, (HI.out.ext hx').keep hk2 (fun k hk => (HAP.out k hk).1), fun k hk => ?_, fun k hk => ⟨(HAP.out k hk).1, fun e => ?_⟩, hww⟩
          · rcases hq2 with rfl | hq2
            · exact HQ.out k hk
            · have := hq2 k hk; have := hx'.size; have := hxw.size; omega
          · rcases hq2 with rfl | hq2
            · exact (HAP.out k hk).2 e
            · have := hq2 k e; have := hx'.size; have := (HI.out.lt k hk).2; omega
        case measure => simp [intOf]; omega
      · have hK1 : 1 ≤ K := by omega
        have hdK : decide (0 < K) = true := decide_eq_true hK1
        have HE0 := hid (ext_one HNE.out hK1 (show (0 : Int) ≤ (nx : Int) by omega) (by omega))
        have HNOW := hid (ext_ok HO HE0.out)
        go_wp2_with (first | (go_at_call 22; go_must (refine Calls.mono (Pick_any _ z 1200 ?_ ?_ ?_) ?_; (first | assumption | omega); omega; omega; rw [HP.out]; rintro e w' ⟨rfl, rfl⟩)) | (go_at_call 40; go_must (refine Calls.mono (nodeNeed_any _ _ _ _ ((n : Int)) _ (NodeAt.ext HN ?_) ⟨?_, ?_⟩ ⟨?_, ?_⟩) ?_; (· repeat (first | (with_reducible assumption) | exact Ext.refl _ | refine Ext.alloc ?_ _ | refine Ext.drew ?_ | refine Ext.drewN ?_ _ | (apply Ext.snart; (with_reducible assumption)))); omega; omega; omega; omega; rw [HNE.out]; rintro e w' ⟨rfl, hb'⟩; have hx' := Ext.of hb'; clear hb')))
        have hsz1 := hx'.size
        have hszw := hxw.size
        have HR0 := hid (ownR_blk w' w'.heap.size w'.heap.size #[.int .i64 (nx : Int), .int .i64 (K : Int)] [((nx : Int), (K : Int))] 1 (Nat.le_refl _) rfl rfl (by omega) rfl).rd
        have hxa : Ext wo (w'.alloc (.cells #[.int .i64 (nx : Int), .int .i64 (K : Int)] 43)) := hx'.alloc _
        have HNa := hid (HN.ext hxa)
        have HIa := hid (HI.out.ext hxa)
        have hxwa := hxw.trans hxa
        obtain ⟨wa, hwa⟩ : ∃ wa, wa = w'.alloc (.cells #[.int .i64 (nx : Int), .int .i64 (K : Int)] 43) := ⟨_, rfl⟩
        have hsa : wa.heap.size = w'.heap.size + 1 := by rw [hwa]; simp
        have HSA := hid hsa
        rw [← hwa] at HR0 HNa HIa hxwa ⊢
        clear hwa hxa hsa
        have hgwr := HN.lt
        have hq8 : ∀ k, (Value.slice a8 L.length c8).ownBlock = some k → k < wo.heap.size := fun k hk => (HI.out.lt k hk).2
        have HQ8 := hid hq8
        clear hq8
        go_loopw [8, 15] (fun u8 u15 wr => ∃ j : Nat, j ≤ K ∧ u15 = .int .i64 j ∧ OwnI wr w.heap.size u8 (L ++ expand [((nx : Int), (j : Int))]) ∧ NodeAt wr g q s L ∧ (∀ k, u8.ownBlock = some k → k ≠ g ∧ q ≠ some k ∧ k ≠ w'.heap.size) ∧ RdR wr (.slice (some ⟨w'.heap.size, 0, none⟩) 1 1) [((nx : Int), (K : Int))] ∧ w'.heap.size < wr.heap.size ∧ Ext w wr) (fun _ j _ => K - (intOf j).toNat)
        case atStart => exact ⟨0, by omega, rfl, by simpa [expand] using HIa.out, HNa.out, fun k hk => ⟨(HAP.out k hk).1, (HAP.out k hk).2, fun e => by have := HQ8.out k hk; omega⟩, HR0.out, by have := HSA.out; omega, hxwa⟩
        case round =>
          obtain ⟨j, hj, rfl, hown, HNi, hapi, hri, hszi, hxi⟩ := hrel
          have HOWN := hid hown
          have HAPI := hid hapi
          have HRI := hid hri
          have hel : (expand [((nx : Int), (j : Int))]).length = j := by rw [expand_one_len]; simp
          have hll : (L ++ expand [((nx : Int), (j : Int))]).length = L.length + j := by rw [List.length_append, hel]
          have hll2 : (L ++ expand [((nx : Int), (j : Int))]).length ≤ 128 := by omega
          have HES := hid (expand_one_succ (nx : Int) j)
          clear hown hapi hri hel hll
          by_cases hjk : j < K
          · obtain ⟨a9, c9, rfl, -⟩ := HOWN.out.rd.slice
            have HSI := hid (src_int wr wr.heap.size ((nx : Int) + (j : Int)) rfl)
            go_wp2_with (at_builtin; go_must (refine wl_appI rfl _ _ _ rfl w.heap.size _ _ rfl (HOWN.out.ext ((Ext.refl wr).alloc (.cells #[.int .i64 ((nx : Int) + (j : Int))] 3))) _ [(nx : Int) + (j : Int)] rfl HSI.out (by simp only [List.length_singleton]; omega) (by have := hxi.size; simp; omega) ?_; intro v9 w9 k1 k4 k5 k6))
            go_roundw
            case rel =>
              have hk4 := keep_grown k4
              have hxa := (Ext.refl wr).alloc (.cells #[.int .i64 ((nx : Int) + (j : Int))] 3)
              have hgi := HNi.lt
              refine ⟨j + 1, by omega, by go_num, by rw [HES.out, ← List.append_assoc]; exact k1, (HNi.ext hxa).keep hk4 (fun e => (HAPI.out g e.symm).1 rfl) (fun k hk e => (HAPI.out k e.symm).2.1 hk), fun k hk => ?_, (HRI.out.ext hxa).keep hk4 (fun _ k hk e => by simp only [Value.ownBlock, Option.map_some, Option.some.injEq] at hk; exact (HAPI.out k e.symm).2.2 hk.symm), by have := k4.size; simp at this; omega, (hxi.alloc _).grown k4 (fun k hk => (HOWN.out.lt k hk).1)⟩
              rcases k6 k hk with h | h
              · exact HAPI.out k h
              · have h' : wr.heap.size + 1 ≤ k := by simpa using h
                refine ⟨by omega, fun e => ?_, by omega⟩
                obtain ⟨_, _, _, hqb, _, hql, _⟩ := HNi
                have := hql k e
                omega
            case measure => simp [intOf]; omega
          · obtain rfl : j = K := by omega
            clear HN
            have HN := HNi
            go_wp2_with (first | (go_at_call 22; go_must (refine Calls.mono (Pick_any _ c 4 ?_ ?_ ?_) ?_; (first | assumption | omega); omega; omega; rw [HP4.out]; rintro e w' ⟨rfl, rfl⟩)) | (go_at_call 41; go_must (refine Calls.mono (nodeExtend_any _ _ _ _ ((n : Int)) _ (NodeAt.ext HN ?_) HO ⟨?_, ?_⟩ _ ([((nx : Int), (j : Int))]) ?_ ?_) ?_; (· repeat (first | (with_reducible assumption) | exact Ext.refl _ | refine Ext.alloc ?_ _ | refine Ext.drew ?_ | refine Ext.drewN ?_ _ | (apply Ext.snart; (with_reducible assumption)))); omega; omega; exact HRI.out; (intro r hr; obtain rfl := List.mem_singleton.1 hr; exact ⟨⟨by dsimp only; omega, by dsimp only; omega⟩, by dsimp only; omega, by dsimp only; omega⟩); rintro e w2 he; rcases ExtEnd.ok he HE0.out with ⟨rfl, q2, HN2, hk2, hq2⟩; clear he)))
            have hww : Ext w w2 := hxi.keepStep hk2 hg'
            go_roundw
            case rel =>
              have hel : (expand [((nx : Int), (j : Int))]).length = j := by rw [expand_one_len]; simp
              refine ⟨i + 1, nx + j + p4, q2, L ++ expand [((nx : Int), (j : Int))], s + (n : Int), by omega, by omega, by go_num, by go_num, by rw [List.length_append, hel]; omega, by omega, HN2, HNOW.out.1, HOWN.out.keep hk2 (fun k hk => (HAPI.out k hk).1), fun k hk => ?_, fun k hk => ⟨(HAPI.out k hk).1, fun e => ?_⟩, hww⟩
              · rcases hq2 with rfl | hq2
                · exact HQ.out k hk
                · have := hq2 k hk; have := hxi.size; omega
              · rcases hq2 with rfl | hq2
                · exact (HAPI.out k hk).2.1 e
                · have := hq2 k e; have := (HOWN.out.lt k hk).2; omega
            case measure => simp [intOf]; omega
    · have hex : ¬ i < zs.length ∨ (i < zs.length ∧ ¬ i < 20) := by omega
      clear hlt
      rcases hex with hex | ⟨hex, hex2⟩
      all_goals
        go_wp2_with fail
        go_ret3
        exact ⟨g, q, s, L, _, rfl, HN, HO, by omega, HI.out, hg', fun k hk => HQ.out k hk, fun k hk => HAP.out k hk, hxw⟩
end Go.Proofs.Ytbpcgfplokkfpaa
