/- InodeBack, walked. -/
import Derived.Test.YtbpcgfplokkfpaaBackL
import Derived.Test.YtbpcgfplokkfpaaCallI
import Derived.Test.YtbpcgfplokkfpaaCopyW
namespace Go.Proofs.Ytbpcgfplokkfpaa
open Go.RowKit
set_option linter.unusedVariables false
set_option linter.unusedSimpArgs false

theorem ExtEnd.any {w w' : World} {g : Nat} {q : Option Nat} {s n : Int} {L : List Int} {ls : List Run} {e : Ending} (h : ExtEnd w g q s n L ls e w') (ho : NodeOk s L) :
    ∃ c q' s' L', e = .returned (.int .i64 c) ∧ NodeAt w' g q' s' L' ∧ NodeOk s' L' ∧ Keep (fun k => k ≠ g) w w' ∧ (q' = q ∨ ∀ k, q' = some k → w.heap.size ≤ k) := by
  obtain ⟨h1, q', h2, h3, h4⟩ := h
  by_cases hE : extF s n ls = 0
  · rw [if_pos hE, if_pos hE] at h2
    exact ⟨_, q', _, _, h1, h2, (ext_ok ho hE).1, h3, h4⟩
  · rw [if_neg hE, if_neg hE] at h2
    exact ⟨_, q', _, _, h1, h2, ho, h3, h4⟩
theorem ownR_one (w : World) (f n : Int) : OwnR (w.alloc (.cells #[.int .i64 f, .int .i64 n] 43)) w.heap.size (.slice (some ⟨w.heap.size, 0, none⟩) 1 1) [(f, n)] := ownR_blk w w.heap.size w.heap.size #[.int .i64 f, .int .i64 n] [(f, n)] 1 (Nat.le_refl _) rfl rfl (by omega) rfl
theorem own_made (w : World) : OwnB (w.alloc (.cells #[] 5)) w.heap.size (.slice (some ⟨w.heap.size, 0, none⟩) 0 0) [] := World.ownsRow_made w #[] 0 (Nat.le_refl _) (by simp [maxLen]) rfl
theorem ReadEnd.some {w w' : World} {l : List UInt8} {e : Ending} {s : Int} {xs : List Run} {n : Nat} (h : ReadEnd w l e w') (hr : readF l = some (s, xs, n)) :
    ∃ g q, e = .returned (.tuple #[.pointer (some ⟨g, 0, none⟩), .int .i64 (n : Nat), .int .i64 0]) ∧ NodeAt w' g q s (expand xs) ∧ NodeOk s (expand xs) ∧ w.heap.size ≤ g ∧ (∀ k, q = some k → w.heap.size ≤ k) ∧ Ext w w' := by
  obtain ⟨-, h2, h3⟩ := h
  obtain ⟨g, q, h4, h5, h6, h7, h8⟩ := h2 _ _ _ hr
  exact ⟨g, q, h4, h5, h6, h7, h8, h3⟩
theorem nodeB_len (s : Int) {L : List Int} (hl : L.length ≤ 64) : (nodeB s L).length ≤ 1300 := by
  have h1 := putU_len s.toNat
  have h2 := putU_len (whole L).length
  have h3 := runsB_len (whole L)
  have h4 := whole_len L
  unfold nodeB
  rw [List.length_append, List.length_append]
  omega

set_option maxRecDepth 100000 in
set_option maxHeartbeats 4000000 in
theorem inodeBack_walk (w : World) (v : Value) (zs : List CallI) (rd : RdS rCallI w (fun k => k < w.heap.size) v zs) (tv : Value) (tl : List UInt8) (htv : RdB w tv tl) (sz : tl.length ≤ 140737488351232) :
    Calls Try.prog 14 #[v, tv] w fun e w' => e = .returned (.bool true) ∧ Below w.heap.size w w' := by
  have HV := hid rd
  have HT := hid htv
  obtain ⟨av, cv, rfl, hc1, hc2⟩ := rd.slice
  obtain ⟨at', ct, rfl, ht1, ht2, -, -⟩ := id htv
  have ht2 : ct ≤ 9223372036854775807 := by unfold maxLen at ht2; omega
  clear rd htv
  go_enter Try.func14, Try.ntmps14
  go_wp2_with (first | (go_at_call 39; go_must (refine Calls.mono (nodeNew_any _) ?_; rintro e w' ⟨g, rfl, HN, hg', hb'⟩; have hx' := Ext.of hb'; clear hb')) | (go_at_call 16; go_must (refine (awake6_any _).mono ?_; rintro e w' ⟨rfl, hb'⟩; have hx' := Ext.of hb'; clear hb')))
  have hgw : w.heap.size ≤ g := Nat.le_trans (Ext.size (by assumption)) hg'
  have HN0 := hid HN
  have HXW := hid (show Ext w w' by (· repeat (first | (with_reducible assumption) | exact Ext.refl _ | refine Ext.alloc ?_ _ | refine Ext.drew ?_ | refine Ext.drewN ?_ _ | (apply Ext.snart; (with_reducible assumption)))))
  clear HN hx' hg'
  go_loopw [7] (fun u7 wr => ∃ i : Nat, ∃ q L, ∃ s : Int, i ≤ zs.length ∧ i ≤ 40 ∧ u7 = .int .i64 i ∧ NodeAt wr g q s L ∧ NodeOk s L ∧ Ext w wr) (fun i _ => 40 - (intOf i).toNat)
  case atStart => exact ⟨0, none, [], 0, by omega, by omega, rfl, HN0.out, NodeOk.empty, HXW.out⟩
  case round =>
    obtain ⟨wo, rfl⟩ : ∃ wo : World, wo = wr := ⟨_, rfl⟩
    obtain ⟨i, q, L, s, hi, hi40, rfl, HN, HO, hxw⟩ := hrel
    have hs1 := HO.lo
    have hs2 := HO.hi
    have hl64 := HO.len64
    by_cases hlt : i < zs.length ∧ i < 40
    · obtain ⟨hlt, hlt2⟩ := hlt
      obtain ⟨gl, ol, cl, lv, e, hgl, -, d0, d1, -, -, hz0, hz1, -, -, -⟩ := (HV.out.ext hxw).atCallI i hlt
      simp only [Value.slice.injEq] at e
      obtain ⟨rfl, -, rfl⟩ := e
      generalize zs[i] = z at d0 d1 hz0 hz1
      obtain ⟨zk, zn, zl, zt⟩ := z
      dsimp only at d0 d1 hz0 hz1
      have hp := pickF_lt zn 2000 (by omega)
      have HP := hid (show ((pickF zn (2000 : Int).toNat : Nat) : Int) = ((pickF zn 2000 : Nat) : Int) from rfl)
      have hp2 := pickF_lt zk 500 (by omega)
      have HP2 := hid (show ((pickF zk (500 : Int).toNat : Nat) : Int) = ((pickF zk 500 : Nat) : Int) from rfl)
      generalize pickF zn 2000 = n at *
      generalize pickF zk 500 = f at *
      obtain ⟨nd, er, hne, hnd⟩ : ∃ nd er, needF s (n : Int) = (nd, er) ∧ ((er = 60 ∧ nd = 0) ∨ (er = 0 ∧ 0 ≤ nd ∧ nd ≤ 64)) := by
        unfold needF
        rw [if_neg (by omega)]
        by_cases h2 : 32768 - s < (n : Int)
        · rw [if_pos h2]; exact ⟨0, 60, rfl, .inl ⟨rfl, rfl⟩⟩
        · rw [if_neg h2]
          have b1 := nb_lo hs1
          have b2 := nb_mono (show s ≤ s + (n : Int) by omega)
          have b3 := nb_hi (show s + (n : Int) ≤ 32768 by omega)
          exact ⟨_, _, rfl, .inr ⟨rfl, by omega, by omega⟩⟩
      have HNE := hid hne
      clear hne
      have h3 : (er = 60 ∧ nd = 0) ∨ (er = 0 ∧ nd = 0) ∨ (er = 0 ∧ 1 ≤ nd ∧ nd ≤ 64) := by omega
      clear hnd
      rcases h3 with ⟨rfl, rfl⟩ | ⟨rfl, rfl⟩ | ⟨rfl, h4, h5⟩
      · go_wp2_with (first | (go_at_call 22; go_must (refine Calls.mono (Pick_any _ zn 2000 ?_ ?_ ?_) ?_; (first | assumption | omega); omega; omega; rw [HP.out]; rintro e w' ⟨rfl, rfl⟩)) | (go_at_call 40; go_must (refine Calls.mono (nodeNeed_any _ _ _ _ ((n : Int)) _ (NodeAt.ext HN ?_) ⟨?_, ?_⟩ ⟨?_, ?_⟩) ?_; (· repeat (first | (with_reducible assumption) | exact Ext.refl _ | refine Ext.alloc ?_ _ | refine Ext.drew ?_ | refine Ext.drewN ?_ _ | (apply Ext.snart; (with_reducible assumption)))); omega; omega; omega; omega; rw [HNE.out]; rintro e w' ⟨rfl, hb'⟩; have hx' := Ext.of hb'; clear hb')))
        go_roundw
        case rel => exact ⟨i + 1, q, L, s, by omega, by omega, by go_num, HN.ext hx', HO, hxw.trans hx'⟩
        case measure => simp [intOf]; omega
      · go_wp2_with (first | (go_at_call 22; go_must (refine Calls.mono (Pick_any _ zn 2000 ?_ ?_ ?_) ?_; (first | assumption | omega); omega; omega; rw [HP.out]; rintro e w' ⟨rfl, rfl⟩)) | (go_at_call 40; go_must (refine Calls.mono (nodeNeed_any _ _ _ _ ((n : Int)) _ (NodeAt.ext HN ?_) ⟨?_, ?_⟩ ⟨?_, ?_⟩) ?_; (· repeat (first | (with_reducible assumption) | exact Ext.refl _ | refine Ext.alloc ?_ _ | refine Ext.drew ?_ | refine Ext.drewN ?_ _ | (apply Ext.snart; (with_reducible assumption)))); omega; omega; omega; omega; rw [HNE.out]; rintro e w' ⟨rfl, hb'⟩; have hx' := Ext.of hb'; clear hb')))
        go_roundw
        case rel => exact ⟨i + 1, q, L, s, by omega, by omega, by go_num, HN.ext hx', HO, hxw.trans hx'⟩
        case measure => simp [intOf]; omega
      · have hdn : decide (0 < nd) = true := decide_eq_true (by omega)
        have HRO := hid (show ∀ r ∈ [((f : Int), nd)], RunOk r by intro r hr; obtain rfl := List.mem_singleton.1 hr; exact ⟨⟨by dsimp only; omega, by dsimp only; omega⟩, by dsimp only; omega, by dsimp only; omega⟩)
        have HNR := hid (show -9223372036854775808 ≤ (n : Int) ∧ (n : Int) ≤ 9223372036854775807 from ⟨by omega, by omega⟩)
        go_wp2_with (first | (have KEY := d0'; (go_at_call 22; go_must (refine Calls.mono (Pick_any _ zk 500 ?_ ?_ ?_) ?_; (first | assumption | omega); omega; omega; rw [HP2.out]; rintro e w' ⟨rfl, rfl⟩))) | (go_at_call 22; go_must (refine Calls.mono (Pick_any _ zn 2000 ?_ ?_ ?_) ?_; (first | assumption | omega); omega; omega; rw [HP.out]; rintro e w' ⟨rfl, rfl⟩)) | (go_at_call 40; go_must ((refine Calls.mono (nodeNeed_any _ _ _ _ ((n : Int)) _ (NodeAt.ext HN ?_) ⟨?_, ?_⟩ ⟨?_, ?_⟩) ?_; (· repeat (first | (with_reducible assumption) | exact Ext.refl _ | refine Ext.alloc ?_ _ | refine Ext.drew ?_ | refine Ext.drewN ?_ _ | (apply Ext.snart; (with_reducible assumption)))); omega; omega; omega; omega; rw [HNE.out]; rintro e w' ⟨rfl, hb'⟩; have hx' := Ext.of hb'; clear hb'); have d0' := hx'.cellS d0)) | (go_at_call 41; go_must (have hxa := hx'.alloc (.cells #[.int .i64 (f : Int), .int .i64 nd] 43); refine (nodeExtend_any _ g q s (n : Int) L (HN.ext hxa) HO HNR.out _ [((f : Int), nd)] (ownR_one w' _ _).rd HRO.out).mono ?_; intro e w2 he; obtain ⟨ec, q2, s2, L2, rfl, HN2, HO2, hk2, -⟩ := he.any HO; clear he)))
        have hww : Ext w w2 := (hxw.trans hxa).keepStep hk2 hgw
        go_roundw
        case rel => exact ⟨i + 1, q2, L2, s2, by omega, by omega, by go_num, HN2, HO2, hww⟩
        case measure => simp [intOf]; omega
    · have hex : ¬ i < zs.length ∨ (i < zs.length ∧ ¬ i < 40) := by omega
      clear hlt
      obtain ⟨B, HB⟩ : ∃ B, Hid (nodeB s L = B) := ⟨_, hid rfl⟩
      have hBl := nodeB_len s hl64
      rw [HB.out] at hBl
      have HRB := hid (readF_back HO tl)
      rw [HB.out] at HRB
      rcases hex with hex | ⟨hex, hex2⟩
      all_goals
        go_wp2_with (first | (have KEY := HO1; (at_builtin; go_must (refine wl_appB rfl _ _ _ rfl wb.heap.size _ B rfl (appB_own HO1.out) _ tl rfl (src_B (HT.out.ext HX1.out)) ?_ ?_ ?_; (first | omega | (simp only [List.length_cons, List.length_nil, List.length_append, le32]; omega)); (first | omega | (simp only [World.alloc, Array.size_push]; omega)); intro v' w' k1 k2 k3 k4 k5 k6)); have HO2 := hid (k3 HO1.out); have HX2 := hid (Ext.step HXW2.out k5 (Nat.le_refl _)); clear k1 k2 k3 k4 k5 k6 HO1 HRR) | (have KEY := HRR; (at_builtin; go_must (refine wl_appB rfl _ _ _ rfl wb.heap.size (.slice (some ⟨wb.heap.size, 0, none⟩) 0 0) [] rfl (appB_own (own_made wb)) _ B rfl (src_B (HRR.out.ext ((Ext.refl _).alloc _))) ?_ ?_ ?_; (first | omega | (simp only [List.length_cons, List.length_nil, List.length_append, le32]; omega)); (first | omega | (simp only [World.alloc, Array.size_push]; omega)); intro v' w' k1 k2 k3 k4 k5 k6)); have HO1 := k3 (own_made wb); rw [List.nil_append] at HO1; have HO1 := hid HO1; have HXW2 := hid (Ext.step ((Ext.refl wb).alloc _) k5 (Nat.le_refl _)); have HX1 := hid ((hxw.trans HXB.out).trans HXW2.out); have hsz1 := HXW2.out.size; clear k1 k2 k3 k4 k5 k6) | (go_at_call 42; go_must ((refine Calls.mono (nodeBytes_any _ _ _ _ _ (NodeAt.ext HN ?_) HO) ?_; (· repeat (first | (with_reducible assumption) | exact Ext.refl _ | refine Ext.alloc ?_ _ | refine Ext.drew ?_ | refine Ext.drewN ?_ _ | (apply Ext.snart; (with_reducible assumption)))); rw [HB.out]; (rintro e w' ⟨v', rfl, ho', hb'⟩; have hr' := rdB_own ho'; obtain ⟨a', c', rfl⟩ := OwnB.slice ho'; (try simp only [List.nil_append, List.length_append, List.length_cons, List.length_nil, Nat.zero_add, Nat.reduceAdd] at ho' hr'); have hx' := Ext.of hb'; clear hb'); have hs' := run_strB hr'); have HRR := hid hr'; have HXB := hid hx'; clear hs' ho' hr' hx'; obtain ⟨wb, rfl⟩ : ∃ wb : World, wb = w' := ⟨_, rfl⟩)) | (go_at_call 50; go_must (refine (Read_any _ _ (B ++ tl) (rdB_own HO2.out)).mono ?_; intro e w2 he; obtain ⟨g2, q2, rfl, HN2, HOK2, hg2, hq2, hx2⟩ := he.some HRB.out; clear he; rw [expand_whole] at HN2 HOK2; have HXR := hid (HXB.out.trans (HX2.out.trans hx2)); have HNa := hid (HN.ext HXR.out); have HNb := hid HN2; clear HN2 hx2 HO2 HX2 HX1 HXW2)) | (go_at_call 18; go_must (first | (refine Calls.mono (nodeSize_any _ _ _ _ _ HNa.out) ?_; rintro e w' ⟨rfl, rfl⟩) | (refine Calls.mono (nodeSize_any _ _ _ _ _ HNb.out) ?_; rintro e w' ⟨rfl, rfl⟩))) | (go_at_call 20; go_must (first | (refine Calls.mono (nodeBlocks_any _ _ _ _ _ HNa.out HO) ?_; rintro e w' ⟨rfl, rfl⟩) | (refine Calls.mono (nodeBlocks_any _ _ _ _ _ HNb.out HO) ?_; rintro e w' ⟨rfl, rfl⟩))))
        have HXR2 := hid (hxw.trans HXR.out)
        have HOK := hid HO
        clear HN HO hg2 hq2 HOK2 hxw
        go_loopw [15] (fun u15 wr => ∃ k : Nat, u15 = .int .i64 k ∧ k ≤ 32868 ∧ Ext w2 wr) (fun k _ => 40000 - (intOf k).toNat)
        case atStart => exact ⟨0, rfl, by omega, Ext.refl _⟩
        case round =>
          obtain ⟨wo, rfl⟩ : ∃ wo : World, wo = wr := ⟨_, rfl⟩
          obtain ⟨k, rfl, hk, hxk⟩ := hrel
          by_cases hks : (k : Int) < s
          · obtain ⟨b, hb⟩ : ∃ b, L[((k : Int) / 512).toNat]? = some b := by
              have hl := HOK.out.len
              unfold nb at hl
              exact ⟨_, List.getElem?_eq_getElem (show ((k : Int) / 512).toNat < L.length by omega)⟩
            have HBB := hid hb
            have hT : (k : Int).tmod 512 = (k : Int) % 512 := Int.tmod_eq_emod_of_nonneg (by omega)
            clear hb
            go_wp2_with (first | (go_at_call 18; go_must (refine Calls.mono (nodeSize_any _ _ _ _ _ (HNa.out.ext hxk)) ?_; rintro e w' ⟨rfl, rfl⟩)) | (have KEY := hx3; go_at_call 19; go_must (refine Calls.mono (nodeAt_any _ _ _ _ _ _ _ (HNb.out.ext (hxk.trans hx3)) HOK.out ?_ hks HBB.out) ?_; omega; rintro e w' ⟨rfl, hb'⟩; have hx4 := Ext.of hb'; clear hb')) | (go_at_call 19; go_must (refine Calls.mono (nodeAt_any _ _ _ _ _ _ _ (HNa.out.ext hxk) HOK.out ?_ hks HBB.out) ?_; omega; rintro e w' ⟨rfl, hb'⟩; have hx3 := Ext.of hb'; clear hb')))
            go_roundw
            case rel => exact ⟨k + 100, by go_num, by omega, hxk.trans (hx3.trans hx4)⟩
            case measure => simp [intOf]; omega
          · go_wp2_with (go_at_call 18; go_must (refine Calls.mono (nodeSize_any _ _ _ _ _ (HNa.out.ext hxk)) ?_; rintro e w' ⟨rfl, rfl⟩))
            go_ret
            exact ⟨rfl, by show Ext _ _; exact HXR2.out.trans hxk⟩
end Go.Proofs.Ytbpcgfplokkfpaa
