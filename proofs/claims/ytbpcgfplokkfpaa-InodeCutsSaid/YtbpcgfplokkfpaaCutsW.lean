/- InodeCuts, walked. -/
import Derived.Test.YtbpcgfplokkfpaaGrown
import Derived.Test.YtbpcgfplokkfpaaSameR
namespace Go.Proofs.Ytbpcgfplokkfpaa
open Go.RowKit
set_option linter.unusedVariables false
set_option linter.unusedSimpArgs false

set_option maxRecDepth 100000 in
set_option maxHeartbeats 4000000 in
theorem inodeCuts_walk (w : World) (a : Int) (ha : -9223372036854775808 ≤ a ∧ a ≤ 9223372036854775807) (b : Int) (hb : -9223372036854775808 ≤ b ∧ b ≤ 9223372036854775807) (c : Int) (hc : -9223372036854775808 ≤ c ∧ c ≤ 9223372036854775807) (d : Int) (hd : -9223372036854775808 ≤ d ∧ d ≤ 9223372036854775807) :
    Calls Try.prog 8 #[.int .i64 a, .int .i64 b, .int .i64 c, .int .i64 d] w fun e w' => e = .returned (.bool true) ∧ Below w.heap.size w w' := by
  have hp1 := pickF_lt a 20000 (by omega)
  have HP1 := hid (show ((pickF a (20000 : Int).toNat : Nat) : Int) = ((pickF a 20000 : Nat) : Int) from rfl)
  generalize pickF a 20000 = s at *
  have hp2 := pickF_lt c 12000 (by omega)
  have HP2 := hid (show ((pickF c (12000 : Int).toNat : Nat) : Int) = ((pickF c 12000 : Nat) : Int) from rfl)
  generalize pickF c 12000 = n at *
  have hp3 := pickF_lt b 300 (by omega)
  have HP3 := hid (show ((pickF b (300 : Int).toNat : Nat) : Int) = ((pickF b 300 : Nat) : Int) from rfl)
  generalize pickF b 300 = p at *
  have HO := NodeOk.empty
  have hn1 := need_ok (s := 0) (n := (s : Int)) (by omega) (by omega) (by omega)
  obtain ⟨k, hk⟩ := Int.eq_ofNat_of_zero_le (nb_lo (show 0 ≤ 0 + (s : Int) by omega))
  rw [hk, show nb 0 = 0 from rfl, Int.sub_zero] at hn1
  have hn2 := need_ok (s := (s : Int)) (n := (n : Int)) (by omega) (by omega) (by omega)
  have hkn : nb (s : Int) = (k : Int) := by rw [← hk, Int.zero_add]
  obtain ⟨m, hm⟩ := Int.eq_ofNat_of_zero_le (show 0 ≤ nb ((s : Int) + (n : Int)) - nb (s : Int) by have := nb_mono (show (s : Int) ≤ (s : Int) + (n : Int) by omega); omega)
  rw [hm] at hn2
  have hks : k = 0 → s = 0 := by intro h; rw [h] at hkn; unfold nb at hkn; omega
  have hk64 : k ≤ 64 := by have := nb_hi (show (s : Int) ≤ 32768 by omega); omega
  have hm64 : m ≤ 64 := by have := nb_hi (show (s : Int) + (n : Int) ≤ 32768 by omega); have := nb_lo (show 0 ≤ (s : Int) by omega); omega
  have HK := hid hkn
  have ND1 := hid hn1
  have ND2 := hid hn2
  have HKS := hid hks
  clear hn1 hn2 hk hkn hm hks
  have HL1 := hid (show (expand [((0 : Int), (k : Int))]).length = k by rw [expand_one_len]; simp)
  obtain ⟨B1, hB1⟩ : ∃ B1, B1 = nodeB (s : Int) (expand [((0 : Int), (k : Int))]) := ⟨_, rfl⟩
  have HNB := hid hB1.symm
  clear hB1
  by_cases hk0 : k = 0
  · have hs0 := HKS.out hk0
    subst hk0 hs0
    have ND2 := hid (show needF 0 (n : Int) = ((m : Int), 0) from ND2.out)
    have HL1 := hid (show (expand [((0 : Int), (0 : Int))]).length = 0 from rfl)
    have HK := hid (show nb 0 = 0 from rfl)
    have HNB := hid (show nodeB 0 (expand [((0 : Int), (0 : Int))]) = B1 from HNB.out)
    have HO1 := hid (show NodeOk 0 (expand [((0 : Int), (0 : Int))]) from NodeOk.empty)
    go_enter Try.func8, Try.ntmps8
    go_wp2_with (first | (go_at_call 16; go_must (refine (awake6_any _).mono ?_; rintro e w' ⟨rfl, hb'⟩; have hx' := Ext.of hb'; clear hb')) | (go_at_call 39; go_must (refine Calls.mono (nodeNew_any _) ?_; rintro e w' ⟨g, rfl, HN, hg', hb'⟩; have hx' := Ext.of hb'; clear hb')) | (go_at_call 22; go_must (refine Calls.mono (Pick_any _ _ _ ?_ ?_ ?_) ?_; (first | (with_reducible assumption) | (refine ⟨?_, ?_⟩ <;> omega)); omega; omega; (first | rw [HP1.out] | rw [HP2.out] | rw [HP3.out]); rintro e w' ⟨rfl, rfl⟩)))
    (refine Calls.mono (nodeNeed_any _ _ _ _ ((0 : Int)) _ (NodeAt.ext HN ?_) ⟨?_, ?_⟩ ⟨?_, ?_⟩) ?_; (· repeat (first | (with_reducible assumption) | exact Ext.refl _ | refine Ext.alloc ?_ _ | refine Ext.drew ?_ | refine Ext.drewN ?_ _ | (apply Ext.snart; (with_reducible assumption)))); omega; omega; omega; omega; rw [show needF 0 0 = (0, 0) from by decide]; rintro e w' ⟨rfl, hb'⟩; have hx' := Ext.of hb'; clear hb')
    have hgA : w.heap.size ≤ g := Nat.le_trans (show Ext w _ by assumption).size hg'
    have hxA : Ext w w' := by (· repeat (first | (with_reducible assumption) | exact Ext.refl _ | refine Ext.alloc ?_ _ | refine Ext.drew ?_ | refine Ext.drewN ?_ _ | (apply Ext.snart; (with_reducible assumption))))
    have HNA : NodeAt w' g none 0 (expand [((0 : Int), (0 : Int))]) := by have := HN.ext (show Ext _ w' by assumption); exact this
    clear HN HO hg'
    obtain ⟨wA, rfl⟩ : ∃ wA : World, wA = w' := ⟨_, rfl⟩
    clear hx'
    have HN := HNA
    have HO := HO1.out
    clear HNA
    have hxA' := hxA
    go_wp2_with fail
    (refine Calls.mono (nodeBytes_any _ _ _ _ _ (NodeAt.ext HN ?_) HO) ?_; (· repeat (first | (with_reducible assumption) | exact Ext.refl _ | refine Ext.alloc ?_ _ | refine Ext.drew ?_ | refine Ext.drewN ?_ _ | (apply Ext.snart; (with_reducible assumption)))); rw [HNB.out]; (rintro e w' ⟨v', rfl, ho', hb'⟩; have hr' := rdB_own ho'; obtain ⟨a', c', rfl⟩ := OwnB.slice ho'; (try simp only [List.nil_append, List.length_append, List.length_cons, List.length_nil, Nat.zero_add, Nat.reduceAdd] at ho' hr'); have hx' := Ext.of hb'; clear hb'); have hs' := run_strB hr')
    go_wp2_with fail
    (refine Calls.mono (nodeNeed_any _ _ _ _ ((n : Int)) _ (NodeAt.ext HN ?_) ⟨?_, ?_⟩ ⟨?_, ?_⟩) ?_; (· repeat (first | (with_reducible assumption) | exact Ext.refl _ | refine Ext.alloc ?_ _ | refine Ext.drew ?_ | refine Ext.drewN ?_ _ | (apply Ext.snart; (with_reducible assumption)))); omega; omega; omega; omega; rw [ND2.out]; rintro e w' ⟨rfl, hb'⟩; have hx' := Ext.of hb'; clear hb')
    have HXN := hid (show Ext w w' by exact hxA.trans (by (· repeat (first | (with_reducible assumption) | exact Ext.refl _ | refine Ext.alloc ?_ _ | refine Ext.drew ?_ | refine Ext.drewN ?_ _ | (apply Ext.snart; (with_reducible assumption))))))
    by_cases hm0 : m = 0
    · subst hm0
      have HE2 := hid (ext_nil ND2.out)
      have HO2 := hid (ext_ok HO HE2.out).1
      have HDROP := hid (show whole ((expand [((0 : Int), (0 : Int))] ++ expand []).drop (nb (0 : Int)).toNat) = [] by rw [HK.out, expand_nil, List.append_nil, List.drop_of_length_le (by rw [HL1.out]; simp)]; rfl)
      have HTAKE := hid (show (expand [((0 : Int), (0 : Int))] ++ expand []).take (nb (0 : Int)).toNat = expand [((0 : Int), (0 : Int))] by rw [HK.out, expand_nil, List.append_nil, List.take_of_length_le (by rw [HL1.out]; simp)])
      go_wp2_with fail
      (refine Calls.mono (nodeExtend_any _ _ _ _ ((n : Int)) _ (NodeAt.ext HN ?_) HO ⟨?_, ?_⟩ _ ([]) ?_ ?_) ?_; (· repeat (first | (with_reducible assumption) | exact Ext.refl _ | refine Ext.alloc ?_ _ | refine Ext.drew ?_ | refine Ext.drewN ?_ _ | (apply Ext.snart; (with_reducible assumption)))); omega; omega; exact RdR.nil _; simp; rintro e w2 he; rcases ExtEnd.ok he HE2.out with ⟨rfl, q2, HN2, hk2, hq2⟩; clear he)
      have HXE := hid (HXN.out.keepStep hk2 hgA)
      have HRL2 := hid (RdR.nil w2)
      have HLB := hid (show ∀ j, (Value.slice none 0 0).ownBlock = some j → g < j by simp [Value.ownBlock])
      obtain ⟨wE, rfl⟩ : ∃ wE : World, wE = w2 := ⟨_, rfl⟩
      have HOE := HO2.out
      have HNE := HN2
      clear HN HN2 HO
      have HN := HNE
      have HO := HOE
      clear HNE HOE
      go_wp2_with fail
      (refine Calls.mono (nodeSize_any _ _ _ _ _ (NodeAt.ext HN ?_)) ?_; (· repeat (first | (with_reducible assumption) | exact Ext.refl _ | refine Ext.alloc ?_ _ | refine Ext.drew ?_ | refine Ext.drewN ?_ _ | (apply Ext.snart; (with_reducible assumption)))); rintro e w' ⟨rfl, rfl⟩)
      go_wp2_with fail
      (refine Calls.mono (nodeCut_any _ _ _ ((0 : Int) + ((n : Nat) : Int)) ((0 : Int)) _ (NodeAt.ext HN ?_) HO ?_ ?_) ?_; (· repeat (first | (with_reducible assumption) | exact Ext.refl _ | refine Ext.alloc ?_ _ | refine Ext.drew ?_ | refine Ext.drewN ?_ _ | (apply Ext.snart; (with_reducible assumption)))); omega; omega; rintro e w3 ⟨gv, q3, rfl, HN3, HG, hk3, hq3, hap3, hnil3⟩)
      have e1 := HDROP.out
      have e2 := HTAKE.out
      rw [e1] at HG
      rw [e2] at HN3
      have hgvn : ∀ j, gv.ownBlock = some j → j ≠ g := fun j hj e => by have := (HG.lt j hj).1; have := HN.lt; omega
      have HRL3 := HRL2.out.keep hk3 (fun _ j hj e => by have := HLB.out j hj; omega)
      have HG3 := HG.rd
      have HX3 := hid (HXE.out.keepStep hk3 hgA)
      clear HN HO HG hnil3 hap3 hq3
      have HN := HN3
      have HO := HO1.out
      clear HN3 HRL2 HXE
      obtain ⟨gva, gvc, rfl, -⟩ := HG3.slice
      try simp only [List.length_cons, List.length_nil, Nat.zero_add] at HG3
      go_wp2_with fail
      (refine Calls.mono (SameRuns_any _ _ _ ([]) ([]) ?_ ?_) ?_; (first | (with_reducible assumption) | (exact RdR.nil _) | (apply RdR.ext; (with_reducible assumption); (· repeat (first | (with_reducible assumption) | exact Ext.refl _ | refine Ext.alloc ?_ _ | refine Ext.drew ?_ | refine Ext.drewN ?_ _ | (apply Ext.snart; (with_reducible assumption)))))); (first | (with_reducible assumption) | (exact RdR.nil _) | (apply RdR.ext; (with_reducible assumption); (· repeat (first | (with_reducible assumption) | exact Ext.refl _ | refine Ext.alloc ?_ _ | refine Ext.drew ?_ | refine Ext.drewN ?_ _ | (apply Ext.snart; (with_reducible assumption)))))); rw [decide_eq_true rfl]; rintro e w' ⟨rfl, hb'⟩; have hx' := Ext.of hb'; clear hb')
      have HX4 := hid (HX3.out.trans hx')
      go_wp2_with (first | (go_at_call 42; go_must (refine Calls.mono (nodeBytes_any _ _ _ _ _ (NodeAt.ext HN ?_) HO) ?_; (· repeat (first | (with_reducible assumption) | exact Ext.refl _ | refine Ext.alloc ?_ _ | refine Ext.drew ?_ | refine Ext.drewN ?_ _ | (apply Ext.snart; (with_reducible assumption)))); rw [HNB.out]; (rintro e w' ⟨v', rfl, ho', hb'⟩; have hr' := rdB_own ho'; obtain ⟨a', c', rfl⟩ := OwnB.slice ho'; (try simp only [List.nil_append, List.length_append, List.length_cons, List.length_nil, Nat.zero_add, Nat.reduceAdd] at ho' hr'); have hx' := Ext.of hb'; clear hb'); have hs' := run_strB hr')) | (go_at_call 18; go_must (refine Calls.mono (nodeSize_any _ _ _ _ _ (NodeAt.ext HN ?_)) ?_; (· repeat (first | (with_reducible assumption) | exact Ext.refl _ | refine Ext.alloc ?_ _ | refine Ext.drew ?_ | refine Ext.drewN ?_ _ | (apply Ext.snart; (with_reducible assumption)))); rintro e w' ⟨rfl, rfl⟩)))
      go_ret
      exact ⟨rfl, by show Ext _ _; exact HX4.out.trans (by (· repeat (first | (with_reducible assumption) | exact Ext.refl _ | refine Ext.alloc ?_ _ | refine Ext.drew ?_ | refine Ext.drewN ?_ _ | (apply Ext.snart; (with_reducible assumption)))))⟩
    · have hdm : decide (0 < m) = true := decide_eq_true (by omega)
      have hm1 : 1 ≤ m := by omega
      have HE2 := hid (ext_one ND2.out hm1 (show (0 : Int) ≤ 100 + (p : Int) by omega) (by omega))
      have HO2 := hid (ext_ok HO HE2.out).1
      have HDROP := hid (show whole ((expand [((0 : Int), (0 : Int))] ++ expand [(100 + (p : Int), (m : Int))]).drop (nb (0 : Int)).toNat) = [(100 + (p : Int), (m : Int))] by
        rw [HK.out, show ((0 : Int)).toNat = (expand [((0 : Int), (0 : Int))]).length from by rw [HL1.out]; simp, List.drop_left]
        have := whole_run [] (100 + (p : Int)) m hm1
        rw [List.nil_append] at this
        rw [this]; rfl)
      have HTAKE := hid (show (expand [((0 : Int), (0 : Int))] ++ expand [(100 + (p : Int), (m : Int))]).take (nb (0 : Int)).toNat = expand [((0 : Int), (0 : Int))] by
        rw [HK.out, show ((0 : Int)).toNat = (expand [((0 : Int), (0 : Int))]).length from by rw [HL1.out]; simp, List.take_left])
      have hngw := HN.lt
      go_wp2_with ((go_at_call 22; go_must (refine Calls.mono (Pick_any _ _ _ ?_ ?_ ?_) ?_; (first | (with_reducible assumption) | (refine ⟨?_, ?_⟩ <;> omega)); omega; omega; rw [HP3.out]; rintro e w' ⟨rfl, rfl⟩)))
      have HRB2 := hid (ownR_blk w' w'.heap.size w'.heap.size #[.int .i64 (100 + (p : Int)), .int .i64 (m : Int)] [(100 + (p : Int), (m : Int))] 1 (Nat.le_refl _) rfl rfl (by omega) rfl).rd
      have hgw' : g < w'.heap.size := by have := (show Ext wA w' by (· repeat (first | (with_reducible assumption) | exact Ext.refl _ | refine Ext.alloc ?_ _ | refine Ext.drew ?_ | refine Ext.drewN ?_ _ | (apply Ext.snart; (with_reducible assumption))))).size; omega
      (refine Calls.mono (nodeExtend_any _ _ _ _ ((n : Int)) _ (NodeAt.ext HN ?_) HO ⟨?_, ?_⟩ _ ([(100 + (p : Int), (m : Int))]) ?_ ?_) ?_; (· repeat (first | (with_reducible assumption) | exact Ext.refl _ | refine Ext.alloc ?_ _ | refine Ext.drew ?_ | refine Ext.drewN ?_ _ | (apply Ext.snart; (with_reducible assumption)))); omega; omega; exact HRB2.out; (intro r hr; obtain rfl := List.mem_singleton.1 hr; exact ⟨⟨by dsimp only; omega, by dsimp only; omega⟩, by dsimp only; omega, by dsimp only; omega⟩); rintro e w2 he; rcases ExtEnd.ok he HE2.out with ⟨rfl, q2, HN2, hk2, hq2⟩; clear he)
      have HXE := hid ((HXN.out.alloc (.cells #[.int .i64 (100 + (p : Int)), .int .i64 (m : Int)] 43)).keepStep hk2 hgA)
      have HLB := hid (show ∀ j, (Value.slice (some ⟨w'.heap.size, 0, none⟩) 1 1).ownBlock = some j → g < j by intro j hj; simp only [Value.ownBlock, Option.map_some, Option.some.injEq] at hj; omega)
      have HRL2 := hid (HRB2.out.keep hk2 (fun _ j hj e => by have := HLB.out j hj; omega))
      obtain ⟨wE, rfl⟩ : ∃ wE : World, wE = w2 := ⟨_, rfl⟩
      have HOE := HO2.out
      have HNE := HN2
      clear HN HN2 HO
      have HN := HNE
      have HO := HOE
      clear HNE HOE
      go_wp2_with fail
      (refine Calls.mono (nodeSize_any _ _ _ _ _ (NodeAt.ext HN ?_)) ?_; (· repeat (first | (with_reducible assumption) | exact Ext.refl _ | refine Ext.alloc ?_ _ | refine Ext.drew ?_ | refine Ext.drewN ?_ _ | (apply Ext.snart; (with_reducible assumption)))); rintro e w' ⟨rfl, rfl⟩)
      go_wp2_with fail
      (refine Calls.mono (nodeCut_any _ _ _ ((0 : Int) + ((n : Nat) : Int)) ((0 : Int)) _ (NodeAt.ext HN ?_) HO ?_ ?_) ?_; (· repeat (first | (with_reducible assumption) | exact Ext.refl _ | refine Ext.alloc ?_ _ | refine Ext.drew ?_ | refine Ext.drewN ?_ _ | (apply Ext.snart; (with_reducible assumption)))); omega; omega; rintro e w3 ⟨gv, q3, rfl, HN3, HG, hk3, hq3, hap3, hnil3⟩)
      have e1 := HDROP.out
      have e2 := HTAKE.out
      rw [e1] at HG
      rw [e2] at HN3
      have hgvn : ∀ j, gv.ownBlock = some j → j ≠ g := fun j hj e => by have := (HG.lt j hj).1; have := HN.lt; omega
      have HRL3 := HRL2.out.keep hk3 (fun _ j hj e => by have := HLB.out j hj; omega)
      have HG3 := HG.rd
      have HX3 := hid (HXE.out.keepStep hk3 hgA)
      clear HN HO HG hnil3 hap3 hq3
      have HN := HN3
      have HO := HO1.out
      clear HN3 HRL2 HXE
      obtain ⟨gva, gvc, rfl, -⟩ := HG3.slice
      try simp only [List.length_cons, List.length_nil, Nat.zero_add] at HG3
      go_wp2_with fail
      (refine Calls.mono (SameRuns_any _ _ _ ([(100 + (p : Int), (m : Int))]) ([(100 + (p : Int), (m : Int))]) ?_ ?_) ?_; (first | (with_reducible assumption) | (exact RdR.nil _) | (apply RdR.ext; (with_reducible assumption); (· repeat (first | (with_reducible assumption) | exact Ext.refl _ | refine Ext.alloc ?_ _ | refine Ext.drew ?_ | refine Ext.drewN ?_ _ | (apply Ext.snart; (with_reducible assumption)))))); (first | (with_reducible assumption) | (exact RdR.nil _) | (apply RdR.ext; (with_reducible assumption); (· repeat (first | (with_reducible assumption) | exact Ext.refl _ | refine Ext.alloc ?_ _ | refine Ext.drew ?_ | refine Ext.drewN ?_ _ | (apply Ext.snart; (with_reducible assumption)))))); rw [decide_eq_true rfl]; rintro e w' ⟨rfl, hb'⟩; have hx' := Ext.of hb'; clear hb')
      have HX4 := hid (HX3.out.trans hx')
      go_wp2_with (first | (go_at_call 42; go_must (refine Calls.mono (nodeBytes_any _ _ _ _ _ (NodeAt.ext HN ?_) HO) ?_; (· repeat (first | (with_reducible assumption) | exact Ext.refl _ | refine Ext.alloc ?_ _ | refine Ext.drew ?_ | refine Ext.drewN ?_ _ | (apply Ext.snart; (with_reducible assumption)))); rw [HNB.out]; (rintro e w' ⟨v', rfl, ho', hb'⟩; have hr' := rdB_own ho'; obtain ⟨a', c', rfl⟩ := OwnB.slice ho'; (try simp only [List.nil_append, List.length_append, List.length_cons, List.length_nil, Nat.zero_add, Nat.reduceAdd] at ho' hr'); have hx' := Ext.of hb'; clear hb'); have hs' := run_strB hr')) | (go_at_call 18; go_must (refine Calls.mono (nodeSize_any _ _ _ _ _ (NodeAt.ext HN ?_)) ?_; (· repeat (first | (with_reducible assumption) | exact Ext.refl _ | refine Ext.alloc ?_ _ | refine Ext.drew ?_ | refine Ext.drewN ?_ _ | (apply Ext.snart; (with_reducible assumption)))); rintro e w' ⟨rfl, rfl⟩)))
      go_ret
      exact ⟨rfl, by show Ext _ _; exact HX4.out.trans (by (· repeat (first | (with_reducible assumption) | exact Ext.refl _ | refine Ext.alloc ?_ _ | refine Ext.drew ?_ | refine Ext.drewN ?_ _ | (apply Ext.snart; (with_reducible assumption)))))⟩
  · have hdk : decide (0 < k) = true := decide_eq_true (by omega)
    have HE1 := hid (ext_one ND1.out (show 1 ≤ k by omega) (Int.le_refl 0) (by omega))
    have HO1 := hid (show NodeOk (s : Int) (expand [((0 : Int), (k : Int))]) by have := (ext_ok HO HE1.out).1; rw [Int.zero_add, List.nil_append] at this; exact this)
    go_enter Try.func8, Try.ntmps8
    go_wp2_with (first | (go_at_call 16; go_must (refine (awake6_any _).mono ?_; rintro e w' ⟨rfl, hb'⟩; have hx' := Ext.of hb'; clear hb')) | (go_at_call 39; go_must (refine Calls.mono (nodeNew_any _) ?_; rintro e w' ⟨g, rfl, HN, hg', hb'⟩; have hx' := Ext.of hb'; clear hb')) | (go_at_call 22; go_must (refine Calls.mono (Pick_any _ _ _ ?_ ?_ ?_) ?_; (first | (with_reducible assumption) | (refine ⟨?_, ?_⟩ <;> omega)); omega; omega; (first | rw [HP1.out] | rw [HP2.out] | rw [HP3.out]); rintro e w' ⟨rfl, rfl⟩)))
    have hgA : w.heap.size ≤ g := Nat.le_trans (show Ext w _ by assumption).size hg'
    (refine Calls.mono (nodeNeed_any _ _ _ _ ((s : Int)) _ (NodeAt.ext HN ?_) ⟨?_, ?_⟩ ⟨?_, ?_⟩) ?_; (· repeat (first | (with_reducible assumption) | exact Ext.refl _ | refine Ext.alloc ?_ _ | refine Ext.drew ?_ | refine Ext.drewN ?_ _ | (apply Ext.snart; (with_reducible assumption)))); omega; omega; omega; omega; rw [ND1.out]; rintro e w' ⟨rfl, hb'⟩; have hx' := Ext.of hb'; clear hb')
    go_wp2_with fail
    have hxw : Ext w w' := by (· repeat (first | (with_reducible assumption) | exact Ext.refl _ | refine Ext.alloc ?_ _ | refine Ext.drew ?_ | refine Ext.drewN ?_ _ | (apply Ext.snart; (with_reducible assumption))))
    have HRB := (ownR_blk w' w'.heap.size w'.heap.size #[.int .i64 0, .int .i64 (k : Int)] [((0 : Int), (k : Int))] 1 (Nat.le_refl _) rfl rfl (by omega) rfl).rd
    (refine Calls.mono (nodeExtend_any _ _ _ _ ((s : Int)) _ (NodeAt.ext HN ?_) HO ⟨?_, ?_⟩ _ ([((0 : Int), (k : Int))]) ?_ ?_) ?_; (· repeat (first | (with_reducible assumption) | exact Ext.refl _ | refine Ext.alloc ?_ _ | refine Ext.drew ?_ | refine Ext.drewN ?_ _ | (apply Ext.snart; (with_reducible assumption)))); omega; omega; exact HRB; (intro r hr; obtain rfl := List.mem_singleton.1 hr; exact ⟨⟨by dsimp only; omega, by dsimp only; omega⟩, by dsimp only; omega, by dsimp only; omega⟩); rintro e w2 he; rcases ExtEnd.ok he HE1.out with ⟨rfl, q2, HN2, hk2, hq2⟩; clear he)
    have hxA : Ext w w2 := (hxw.alloc _).keepStep hk2 hgA
    rw [Int.zero_add, List.nil_append] at HN2
    clear HN HO hg' HRB hk2 hxw
    obtain ⟨wA, rfl⟩ : ∃ wA : World, wA = w2 := ⟨_, rfl⟩
    have HN := HN2
    have HO := HO1.out
    clear HN2 hx'
    have hxA' := hxA
    go_wp2_with fail
    (refine Calls.mono (nodeBytes_any _ _ _ _ _ (NodeAt.ext HN ?_) HO) ?_; (· repeat (first | (with_reducible assumption) | exact Ext.refl _ | refine Ext.alloc ?_ _ | refine Ext.drew ?_ | refine Ext.drewN ?_ _ | (apply Ext.snart; (with_reducible assumption)))); rw [HNB.out]; (rintro e w' ⟨v', rfl, ho', hb'⟩; have hr' := rdB_own ho'; obtain ⟨a', c', rfl⟩ := OwnB.slice ho'; (try simp only [List.nil_append, List.length_append, List.length_cons, List.length_nil, Nat.zero_add, Nat.reduceAdd] at ho' hr'); have hx' := Ext.of hb'; clear hb'); have hs' := run_strB hr')
    go_wp2_with fail
    (refine Calls.mono (nodeNeed_any _ _ _ _ ((n : Int)) _ (NodeAt.ext HN ?_) ⟨?_, ?_⟩ ⟨?_, ?_⟩) ?_; (· repeat (first | (with_reducible assumption) | exact Ext.refl _ | refine Ext.alloc ?_ _ | refine Ext.drew ?_ | refine Ext.drewN ?_ _ | (apply Ext.snart; (with_reducible assumption)))); omega; omega; omega; omega; rw [ND2.out]; rintro e w' ⟨rfl, hb'⟩; have hx' := Ext.of hb'; clear hb')
    have HXN := hid (show Ext w w' by exact hxA.trans (by (· repeat (first | (with_reducible assumption) | exact Ext.refl _ | refine Ext.alloc ?_ _ | refine Ext.drew ?_ | refine Ext.drewN ?_ _ | (apply Ext.snart; (with_reducible assumption))))))
    by_cases hm0 : m = 0
    · subst hm0
      have HE2 := hid (ext_nil ND2.out)
      have HO2 := hid (ext_ok HO HE2.out).1
      have HDROP := hid (show whole ((expand [((0 : Int), (k : Int))] ++ expand []).drop (nb (s : Int)).toNat) = [] by rw [HK.out, expand_nil, List.append_nil, List.drop_of_length_le (by rw [HL1.out]; simp)]; rfl)
      have HTAKE := hid (show (expand [((0 : Int), (k : Int))] ++ expand []).take (nb (s : Int)).toNat = expand [((0 : Int), (k : Int))] by rw [HK.out, expand_nil, List.append_nil, List.take_of_length_le (by rw [HL1.out]; simp)])
      go_wp2_with fail
      (refine Calls.mono (nodeExtend_any _ _ _ _ ((n : Int)) _ (NodeAt.ext HN ?_) HO ⟨?_, ?_⟩ _ ([]) ?_ ?_) ?_; (· repeat (first | (with_reducible assumption) | exact Ext.refl _ | refine Ext.alloc ?_ _ | refine Ext.drew ?_ | refine Ext.drewN ?_ _ | (apply Ext.snart; (with_reducible assumption)))); omega; omega; exact RdR.nil _; simp; rintro e w2 he; rcases ExtEnd.ok he HE2.out with ⟨rfl, q2, HN2, hk2, hq2⟩; clear he)
      have HXE := hid (HXN.out.keepStep hk2 hgA)
      have HRL2 := hid (RdR.nil w2)
      have HLB := hid (show ∀ j, (Value.slice none 0 0).ownBlock = some j → g < j by simp [Value.ownBlock])
      obtain ⟨wE, rfl⟩ : ∃ wE : World, wE = w2 := ⟨_, rfl⟩
      have HOE := HO2.out
      have HNE := HN2
      clear HN HN2 HO
      have HN := HNE
      have HO := HOE
      clear HNE HOE
      go_wp2_with fail
      (refine Calls.mono (nodeSize_any _ _ _ _ _ (NodeAt.ext HN ?_)) ?_; (· repeat (first | (with_reducible assumption) | exact Ext.refl _ | refine Ext.alloc ?_ _ | refine Ext.drew ?_ | refine Ext.drewN ?_ _ | (apply Ext.snart; (with_reducible assumption)))); rintro e w' ⟨rfl, rfl⟩)
      go_wp2_with fail
      (refine Calls.mono (nodeCut_any _ _ _ ((s : Int) + ((n : Nat) : Int)) ((s : Int)) _ (NodeAt.ext HN ?_) HO ?_ ?_) ?_; (· repeat (first | (with_reducible assumption) | exact Ext.refl _ | refine Ext.alloc ?_ _ | refine Ext.drew ?_ | refine Ext.drewN ?_ _ | (apply Ext.snart; (with_reducible assumption)))); omega; omega; rintro e w3 ⟨gv, q3, rfl, HN3, HG, hk3, hq3, hap3, hnil3⟩)
      have e1 := HDROP.out
      have e2 := HTAKE.out
      rw [e1] at HG
      rw [e2] at HN3
      have hgvn : ∀ j, gv.ownBlock = some j → j ≠ g := fun j hj e => by have := (HG.lt j hj).1; have := HN.lt; omega
      have HRL3 := HRL2.out.keep hk3 (fun _ j hj e => by have := HLB.out j hj; omega)
      have HG3 := HG.rd
      have HX3 := hid (HXE.out.keepStep hk3 hgA)
      clear HN HO HG hnil3 hap3 hq3
      have HN := HN3
      have HO := HO1.out
      clear HN3 HRL2 HXE
      obtain ⟨gva, gvc, rfl, -⟩ := HG3.slice
      try simp only [List.length_cons, List.length_nil, Nat.zero_add] at HG3
      go_wp2_with fail
      (refine Calls.mono (SameRuns_any _ _ _ ([]) ([]) ?_ ?_) ?_; (first | (with_reducible assumption) | (exact RdR.nil _) | (apply RdR.ext; (with_reducible assumption); (· repeat (first | (with_reducible assumption) | exact Ext.refl _ | refine Ext.alloc ?_ _ | refine Ext.drew ?_ | refine Ext.drewN ?_ _ | (apply Ext.snart; (with_reducible assumption)))))); (first | (with_reducible assumption) | (exact RdR.nil _) | (apply RdR.ext; (with_reducible assumption); (· repeat (first | (with_reducible assumption) | exact Ext.refl _ | refine Ext.alloc ?_ _ | refine Ext.drew ?_ | refine Ext.drewN ?_ _ | (apply Ext.snart; (with_reducible assumption)))))); rw [decide_eq_true rfl]; rintro e w' ⟨rfl, hb'⟩; have hx' := Ext.of hb'; clear hb')
      have HX4 := hid (HX3.out.trans hx')
      go_wp2_with (first | (go_at_call 42; go_must (refine Calls.mono (nodeBytes_any _ _ _ _ _ (NodeAt.ext HN ?_) HO) ?_; (· repeat (first | (with_reducible assumption) | exact Ext.refl _ | refine Ext.alloc ?_ _ | refine Ext.drew ?_ | refine Ext.drewN ?_ _ | (apply Ext.snart; (with_reducible assumption)))); rw [HNB.out]; (rintro e w' ⟨v', rfl, ho', hb'⟩; have hr' := rdB_own ho'; obtain ⟨a', c', rfl⟩ := OwnB.slice ho'; (try simp only [List.nil_append, List.length_append, List.length_cons, List.length_nil, Nat.zero_add, Nat.reduceAdd] at ho' hr'); have hx' := Ext.of hb'; clear hb'); have hs' := run_strB hr')) | (go_at_call 18; go_must (refine Calls.mono (nodeSize_any _ _ _ _ _ (NodeAt.ext HN ?_)) ?_; (· repeat (first | (with_reducible assumption) | exact Ext.refl _ | refine Ext.alloc ?_ _ | refine Ext.drew ?_ | refine Ext.drewN ?_ _ | (apply Ext.snart; (with_reducible assumption)))); rintro e w' ⟨rfl, rfl⟩)))
      go_ret
      exact ⟨rfl, by show Ext _ _; exact HX4.out.trans (by (· repeat (first | (with_reducible assumption) | exact Ext.refl _ | refine Ext.alloc ?_ _ | refine Ext.drew ?_ | refine Ext.drewN ?_ _ | (apply Ext.snart; (with_reducible assumption)))))⟩
    · have hdm : decide (0 < m) = true := decide_eq_true (by omega)
      have hm1 : 1 ≤ m := by omega
      have HE2 := hid (ext_one ND2.out hm1 (show (0 : Int) ≤ 100 + (p : Int) by omega) (by omega))
      have HO2 := hid (ext_ok HO HE2.out).1
      have HDROP := hid (show whole ((expand [((0 : Int), (k : Int))] ++ expand [(100 + (p : Int), (m : Int))]).drop (nb (s : Int)).toNat) = [(100 + (p : Int), (m : Int))] by
        rw [HK.out, show ((k : Int)).toNat = (expand [((0 : Int), (k : Int))]).length from by rw [HL1.out]; simp, List.drop_left]
        have := whole_run [] (100 + (p : Int)) m hm1
        rw [List.nil_append] at this
        rw [this]; rfl)
      have HTAKE := hid (show (expand [((0 : Int), (k : Int))] ++ expand [(100 + (p : Int), (m : Int))]).take (nb (s : Int)).toNat = expand [((0 : Int), (k : Int))] by
        rw [HK.out, show ((k : Int)).toNat = (expand [((0 : Int), (k : Int))]).length from by rw [HL1.out]; simp, List.take_left])
      have hngw := HN.lt
      go_wp2_with ((go_at_call 22; go_must (refine Calls.mono (Pick_any _ _ _ ?_ ?_ ?_) ?_; (first | (with_reducible assumption) | (refine ⟨?_, ?_⟩ <;> omega)); omega; omega; rw [HP3.out]; rintro e w' ⟨rfl, rfl⟩)))
      have HRB2 := hid (ownR_blk w' w'.heap.size w'.heap.size #[.int .i64 (100 + (p : Int)), .int .i64 (m : Int)] [(100 + (p : Int), (m : Int))] 1 (Nat.le_refl _) rfl rfl (by omega) rfl).rd
      have hgw' : g < w'.heap.size := by have := (show Ext wA w' by (· repeat (first | (with_reducible assumption) | exact Ext.refl _ | refine Ext.alloc ?_ _ | refine Ext.drew ?_ | refine Ext.drewN ?_ _ | (apply Ext.snart; (with_reducible assumption))))).size; omega
      (refine Calls.mono (nodeExtend_any _ _ _ _ ((n : Int)) _ (NodeAt.ext HN ?_) HO ⟨?_, ?_⟩ _ ([(100 + (p : Int), (m : Int))]) ?_ ?_) ?_; (· repeat (first | (with_reducible assumption) | exact Ext.refl _ | refine Ext.alloc ?_ _ | refine Ext.drew ?_ | refine Ext.drewN ?_ _ | (apply Ext.snart; (with_reducible assumption)))); omega; omega; exact HRB2.out; (intro r hr; obtain rfl := List.mem_singleton.1 hr; exact ⟨⟨by dsimp only; omega, by dsimp only; omega⟩, by dsimp only; omega, by dsimp only; omega⟩); rintro e w2 he; rcases ExtEnd.ok he HE2.out with ⟨rfl, q2, HN2, hk2, hq2⟩; clear he)
      have HXE := hid ((HXN.out.alloc (.cells #[.int .i64 (100 + (p : Int)), .int .i64 (m : Int)] 43)).keepStep hk2 hgA)
      have HLB := hid (show ∀ j, (Value.slice (some ⟨w'.heap.size, 0, none⟩) 1 1).ownBlock = some j → g < j by intro j hj; simp only [Value.ownBlock, Option.map_some, Option.some.injEq] at hj; omega)
      have HRL2 := hid (HRB2.out.keep hk2 (fun _ j hj e => by have := HLB.out j hj; omega))
      obtain ⟨wE, rfl⟩ : ∃ wE : World, wE = w2 := ⟨_, rfl⟩
      have HOE := HO2.out
      have HNE := HN2
      clear HN HN2 HO
      have HN := HNE
      have HO := HOE
      clear HNE HOE
      go_wp2_with fail
      (refine Calls.mono (nodeSize_any _ _ _ _ _ (NodeAt.ext HN ?_)) ?_; (· repeat (first | (with_reducible assumption) | exact Ext.refl _ | refine Ext.alloc ?_ _ | refine Ext.drew ?_ | refine Ext.drewN ?_ _ | (apply Ext.snart; (with_reducible assumption)))); rintro e w' ⟨rfl, rfl⟩)
      go_wp2_with fail
      (refine Calls.mono (nodeCut_any _ _ _ ((s : Int) + ((n : Nat) : Int)) ((s : Int)) _ (NodeAt.ext HN ?_) HO ?_ ?_) ?_; (· repeat (first | (with_reducible assumption) | exact Ext.refl _ | refine Ext.alloc ?_ _ | refine Ext.drew ?_ | refine Ext.drewN ?_ _ | (apply Ext.snart; (with_reducible assumption)))); omega; omega; rintro e w3 ⟨gv, q3, rfl, HN3, HG, hk3, hq3, hap3, hnil3⟩)
      have e1 := HDROP.out
      have e2 := HTAKE.out
      rw [e1] at HG
      rw [e2] at HN3
      have hgvn : ∀ j, gv.ownBlock = some j → j ≠ g := fun j hj e => by have := (HG.lt j hj).1; have := HN.lt; omega
      have HRL3 := HRL2.out.keep hk3 (fun _ j hj e => by have := HLB.out j hj; omega)
      have HG3 := HG.rd
      have HX3 := hid (HXE.out.keepStep hk3 hgA)
      clear HN HO HG hnil3 hap3 hq3
      have HN := HN3
      have HO := HO1.out
      clear HN3 HRL2 HXE
      obtain ⟨gva, gvc, rfl, -⟩ := HG3.slice
      try simp only [List.length_cons, List.length_nil, Nat.zero_add] at HG3
      go_wp2_with fail
      (refine Calls.mono (SameRuns_any _ _ _ ([(100 + (p : Int), (m : Int))]) ([(100 + (p : Int), (m : Int))]) ?_ ?_) ?_; (first | (with_reducible assumption) | (exact RdR.nil _) | (apply RdR.ext; (with_reducible assumption); (· repeat (first | (with_reducible assumption) | exact Ext.refl _ | refine Ext.alloc ?_ _ | refine Ext.drew ?_ | refine Ext.drewN ?_ _ | (apply Ext.snart; (with_reducible assumption)))))); (first | (with_reducible assumption) | (exact RdR.nil _) | (apply RdR.ext; (with_reducible assumption); (· repeat (first | (with_reducible assumption) | exact Ext.refl _ | refine Ext.alloc ?_ _ | refine Ext.drew ?_ | refine Ext.drewN ?_ _ | (apply Ext.snart; (with_reducible assumption)))))); rw [decide_eq_true rfl]; rintro e w' ⟨rfl, hb'⟩; have hx' := Ext.of hb'; clear hb')
      have HX4 := hid (HX3.out.trans hx')
      go_wp2_with (first | (go_at_call 42; go_must (refine Calls.mono (nodeBytes_any _ _ _ _ _ (NodeAt.ext HN ?_) HO) ?_; (· repeat (first | (with_reducible assumption) | exact Ext.refl _ | refine Ext.alloc ?_ _ | refine Ext.drew ?_ | refine Ext.drewN ?_ _ | (apply Ext.snart; (with_reducible assumption)))); rw [HNB.out]; (rintro e w' ⟨v', rfl, ho', hb'⟩; have hr' := rdB_own ho'; obtain ⟨a', c', rfl⟩ := OwnB.slice ho'; (try simp only [List.nil_append, List.length_append, List.length_cons, List.length_nil, Nat.zero_add, Nat.reduceAdd] at ho' hr'); have hx' := Ext.of hb'; clear hb'); have hs' := run_strB hr')) | (go_at_call 18; go_must (refine Calls.mono (nodeSize_any _ _ _ _ _ (NodeAt.ext HN ?_)) ?_; (· repeat (first | (with_reducible assumption) | exact Ext.refl _ | refine Ext.alloc ?_ _ | refine Ext.drew ?_ | refine Ext.drewN ?_ _ | (apply Ext.snart; (with_reducible assumption)))); rintro e w' ⟨rfl, rfl⟩)))
      go_ret
      exact ⟨rfl, by show Ext _ _; exact HX4.out.trans (by (· repeat (first | (with_reducible assumption) | exact Ext.refl _ | refine Ext.alloc ?_ _ | refine Ext.drew ?_ | refine Ext.drewN ?_ _ | (apply Ext.snart; (with_reducible assumption)))))⟩
end Go.Proofs.Ytbpcgfplokkfpaa
