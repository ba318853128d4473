/- The document's Read, walked. -/
import Derived.Test.YtbpcgfplokkfpaaRReadL
import Derived.Test.YtbpcgfplokkfpaaRNum
import Derived.Test.YtbpcgfplokkfpaaRBytes
import Derived.Test.YtbpcgfplokkfpaaRExt
namespace Go.Proofs.Ytbpcgfplokkfpaa
open Go.RowKit
set_option linter.unusedVariables false
set_option linter.unusedSimpArgs false

theorem numS_next (l : List UInt8) (at0 : Nat) (bad : Bool) (n at1 : Nat) (bad1 : Bool) (h : nextF l (at0, bad) = (n, (at1, bad1))) : numS 32768 (l.drop at0, bad) = (n, (l.drop at1, bad1)) := by
  unfold nextF at h
  unfold numS
  dsimp only at h ⊢
  by_cases hc : (uintF (l.drop at0)).2.2 ≠ 0 ∨ 32768 < (uintF (l.drop at0)).1
  · rw [if_pos hc] at h ⊢
    simp only [Prod.mk.injEq] at h ⊢
    obtain ⟨rfl, rfl, rfl⟩ := h
    exact ⟨rfl, rfl, rfl⟩
  · rw [if_neg hc] at h ⊢
    simp only [Prod.mk.injEq] at h ⊢
    obtain ⟨rfl, rfl, rfl⟩ := h
    exact ⟨rfl, List.drop_drop, rfl⟩
theorem rnum_eq (w : World) (g B : Nat) (l : List UInt8) (at0 : Nat) (bad : Bool) (n at1 : Nat) (bad1 : Bool) (h : CurR w g B (l.drop at0, bad)) (hn : nextF l (at0, bad) = (n, (at1, bad1))) :
    Calls Try.prog 76 #[.pointer (some ⟨g, 0, none⟩), .int .u64 32768] w (fun e w' => e = .returned (.int .i64 (n : Nat)) ∧ CurR w' g B (l.drop at1, bad1) ∧ Keep (fun k => k ≠ g) w w') := by
  refine (RNumber_any w g B 32768 _ h (by omega)).mono fun e w' hh => ?_
  obtain ⟨h1, h2, h3⟩ := hh
  rw [numS_next l at0 bad n at1 bad1 hn] at h1 h2
  exact ⟨h1, h2, h3⟩
theorem nextF_ex2 (l : List UInt8) (at0 : Nat) (bad : Bool) (h : at0 ≤ l.length) : ∃ n at1 bad1, nextF l (at0, bad) = (n, (at1, bad1)) ∧ n ≤ 32768 ∧ at1 ≤ l.length := nextF_ex l at0 bad h

theorem rread_pos {l : List UInt8} {s0 a0 m0 a1 aE : Nat} {b0 b1 : Bool} {X : List Run} (h1 : nextF l (0, false) = (s0, (a0, b0))) (h2 : nextF l (a0, b0) = (m0, (a1, b1))) (h3 : rreadL l m0 (a1, b1) [] = (X, (aE, false))) : 0 < l.length := by
  obtain ⟨rfl, -⟩ := rreadL_good l _ _ _ _ _ _ h3
  have hb0 : b0 = false := by
    cases b0
    · rfl
    · exact absurd (nextF_bad l a0 _ _ _ h2) (by simp)
  subst hb0
  by_cases hl : l = []
  · subst hl
    have : nextF [] (0, false) = (0, (0, true)) := rfl
    rw [this] at h1
    simp at h1
  · exact List.length_pos_iff.2 hl
def RReadEnd (w : World) (l : List UInt8) (e : Ending) (w' : World) : Prop :=
  (readF l = none → e = .returned (.tuple #[.pointer none, .int .i64 0, .int .i64 61])) ∧
  (∀ s xs n, readF l = some (s, xs, n) → ∃ g q, e = .returned (.tuple #[.pointer (some ⟨g, 0, none⟩), .int .i64 (n : Nat), .int .i64 0]) ∧ RNodeAt w' g q s (expand xs) ∧ NodeOk s (expand xs) ∧ w.heap.size ≤ g ∧ (∀ k, q = some k → w.heap.size ≤ k)) ∧ Ext w w'

set_option maxRecDepth 100000 in
set_option maxHeartbeats 4000000 in
theorem RRead_any (w : World) (v : Value) (l : List UInt8) (hv : RdB w v l) :
    Calls Try.prog 51 #[v] w (RReadEnd w l) := by
  obtain ⟨a, cap, rfl, hc1, hc2, -, hlt0⟩ := id hv
  have HV := hid hv
  have HVB := hid (show 0 < l.length → ∀ k, (Value.slice a l.length cap).ownBlock = some k → k < w.heap.size by
    intro h k hk
    obtain ⟨g, o, rfl, hg, -⟩ := hlt0 h
    simp only [Value.ownBlock, Option.map_some, Option.some.injEq] at hk
    omega)
  have hcapI : cap ≤ 9223372036854775807 := by unfold maxLen at hc2; omega
  obtain ⟨wa, hwa⟩ : ∃ wa, wa = w.alloc (.cells #[.slice a l.length cap, .bool false] 110) := ⟨_, rfl⟩
  have hxa : Ext w wa := by rw [hwa]; exact (Ext.refl w).alloc _
  have hsa : wa.heap.size = w.heap.size + 1 := by rw [hwa]; simp
  have HC := hid (show CurR wa w.heap.size w.heap.size (l.drop 0, false) from ⟨_, by rw [hwa]; exact heap_alloc_new _ _, hv.ext hxa, fun h k hk => HVB.out h k hk, Nat.le_refl _⟩)
  have HLT := hid hlt0
  clear hlt0 hc2 hv
  obtain ⟨s0, a0, b0, hs0, hs1, hs2⟩ := nextF_ex l 0 false (Nat.zero_le _)
  obtain ⟨m0, a1, b1, hm0, hm1, hm2⟩ := nextF_ex l a0 b0 hs2
  obtain ⟨X, aE, bE, hR⟩ : ∃ X aE bE, rreadL l m0 (a1, b1) [] = (X, (aE, bE)) := ⟨_, _, _, rfl⟩
  have HPOS := hid (fun (h : bE = false) => rread_pos (l := l) (aE := aE) hs0 hm0 (by rw [hR, h]))
  have HRF := hid ((rreadF_eq l).symm.trans (rreadF_of hs0 hm0 hR))
  have HS0 := hid hs0
  have HM0 := hid hm0
  have HR0 := hid hR
  clear hs0 hm0 hR
  go_enter Try.func51, Try.ntmps51
  go_wp2_with fail
  rw [← hwa]
  clear hwa
  obtain ⟨gc, hgc⟩ : ∃ gc, gc = w.heap.size := ⟨_, rfl⟩
  rw [show CurR wa w.heap.size w.heap.size (l.drop 0, false) = CurR wa gc w.heap.size (l.drop 0, false) by rw [hgc]] at HC
  rw [← hgc]
  have ho1 : w.heap.size ≤ gc ∧ gc < w.heap.size + 1 := by omega
  obtain ⟨ho1, ho2⟩ := ho1
  clear hgc
  refine (rnum_eq wa gc w.heap.size l _ _ _ _ _ HC.out HS0.out).mono ?_
  rintro e w1 ⟨rfl, HC1, hk1⟩
  have HC1' := hid HC1
  clear HC1
  go_wp2_with fail
  refine (rnum_eq w1 gc w.heap.size l _ _ _ _ _ HC1'.out HM0.out).mono ?_
  rintro e w2 ⟨rfl, HC2, hk2⟩
  have hx2 : Ext w w2 := Below.trans (Below.trans hxa (hk1.below w.heap.size (by omega) (fun k hk => by omega))) (hk2.below w.heap.size (by have := hk1.size; omega) (fun k hk => by omega))
  have hsz2 : w.heap.size + 1 ≤ w2.heap.size := by have := hk1.size; have := hk2.size; omega
  have HC0 := hid HC2
  clear HC HC1' HC2 hk1 hk2 hsa hxa HS0 HM0
  go_wp2_with fail
  go_loopw [8, 9] (fun u8 u9 wr => ∃ i : Nat, ∃ at0 : Nat, ∃ bad : Bool, ∃ acc : List Run, i ≤ m0 ∧ u9 = .int .i64 i ∧ rreadL l (m0 - i) (at0, bad) acc = (X, (aE, bE)) ∧ acc.length = i ∧ (∀ r ∈ acc, (0 ≤ r.1 ∧ r.1 ≤ 32768) ∧ 0 ≤ r.2 ∧ r.2 ≤ 32768) ∧ at0 ≤ l.length ∧ CurR wr gc w.heap.size (l.drop at0, bad) ∧ OwnR wr (w.heap.size + 1) u8 acc ∧ w.heap.size + 1 ≤ wr.heap.size ∧ Ext w wr) (fun _ i _ => m0 - (intOf i).toNat)
  case atStart => exact ⟨0, a1, b1, [], by omega, rfl, HR0.out, rfl, by simp, hm2, HC0.out, OwnR.nil _ _, hsz2, hx2⟩
  case round =>
    obtain ⟨wo, rfl⟩ : ∃ wo : World, wo = wr := ⟨_, rfl⟩
    obtain ⟨i, at0, bad, acc, hi, rfl, hRL, hal, hacc, hat0, hcur, hown, hsz, hx⟩ := hrel
    have HRL := hid hRL
    have HCUR := hid hcur
    have HOWN := hid hown
    have HACC := hid hacc
    have HAL := hid hal
    have hal2 : acc.length ≤ 32768 := by omega
    have c2 := hcur.bad
    dsimp only at c2
    clear hRL hcur hown hacc hs2 hm2 HR0 HC0 hsz2 hx2 hal
    by_cases hgo : i < m0 ∧ bad = false
    · obtain ⟨him, rfl⟩ := hgo
      obtain ⟨f, x1, q1, hf0, hf1, hf2⟩ := nextF_ex l at0 false hat0
      obtain ⟨n, x2, q2, hn0, hn1, hn2⟩ := nextF_ex l x1 q1 hf2
      have HST := hid (show rreadL l (m0 - (i + 1)) (x2, q2) (acc ++ [((f : Int), (n : Int))]) = (X, (aE, bE)) by
        have h1 := HRL.out
        rw [show m0 - i = (m0 - (i + 1)) + 1 by omega, rreadL_succ l _ at0 f x1 n x2 q1 q2 acc hf0 hn0] at h1
        exact h1)
      have HF0 := hid hf0
      have HN0 := hid hn0
      clear HRL hf0 hn0
      obtain ⟨a8, c8, rfl, -⟩ := HOWN.out.rd.slice
      go_wp2_with fail
      refine (rnum_eq wo gc w.heap.size l _ _ _ _ _ HCUR.out HF0.out).mono ?_
      rintro e w1 ⟨rfl, HC1, hk1⟩
      have HO1 := HOWN.out.keep hk1 (fun k hk => by have := (HOWN.out.lt k hk).1; omega)
      have HC1' := hid HC1
      have HO1' := hid HO1
      clear c2 HC1 HO1
      go_wp2_with fail
      refine (rnum_eq w1 gc w.heap.size l _ _ _ _ _ HC1'.out HN0.out).mono ?_
      rintro e w2 ⟨rfl, HC2, hk2⟩
      have HO2 := HO1'.out.keep hk2 (fun k hk => by have := (HO1'.out.lt k hk).1; omega)
      have hx2 : Ext w w2 := Below.trans (Below.trans hx (hk1.below w.heap.size (by omega) (fun k hk => by omega))) (hk2.below w.heap.size (by have := hk1.size; omega) (fun k hk => by omega))
      have hs2 : w.heap.size + 1 ≤ w2.heap.size := by have := hk1.size; have := hk2.size; omega
      have HCW := hid HC2
      have HOW := hid HO2
      have HXW := hid hx2
      clear HC2 HO2 hk1 hk2 HCUR HOWN hx hsz hx2 HC1' HO1' HF0 HN0
      have hfn : ∀ r ∈ acc ++ [((f : Int), (n : Int))], (0 ≤ r.1 ∧ r.1 ≤ 32768) ∧ 0 ≤ r.2 ∧ r.2 ≤ 32768 := by
        intro r hr
        rcases List.mem_append.1 hr with h | h
        · exact HACC.out r h
        · obtain rfl := List.mem_singleton.1 h
          exact ⟨⟨by dsimp only; omega, by dsimp only; omega⟩, by dsimp only; omega, by dsimp only; omega⟩
      have HFN := hid hfn
      clear hfn
      have HS := hid (src_run w2 w2.heap.size ((f : Int), (n : Int)) rfl)
      have HOA := hid (HOW.out.ext ((Ext.refl w2).alloc (.cells #[.int .i64 (f : Int), .int .i64 (n : Int)] 43)))
      go_wp2_with (at_builtin; go_must (refine wl_appR rfl _ _ _ rfl (w.heap.size + 1) _ acc rfl HOA.out _ [((f : Int), (n : Int))] rfl HS.out (by simp only [List.length_singleton]; omega) (by simp; omega) ?_; intro v' w' k1 k4 k5 k6))
      go_roundw
      case rel =>
        exact ⟨i + 1, x2, q2, acc ++ [((f : Int), (n : Int))], by omega, by go_num, HST.out, by rw [List.length_append, HAL.out]; rfl, HFN.out, hn2, (HCW.out.ext ((Ext.refl w2).alloc _)).keep (keep_grown k4) (fun e => by have := (HOW.out.lt gc e.symm).1; omega) (fun k hk e => by have := (HOW.out.lt k e.symm).1; omega), k1, by have := k5.size; simp at this; omega, Below.trans (HXW.out.alloc _) (k5.mono (by omega))⟩
      case measure => simp [intOf]; omega
    · have hRe := HRL.out.symm.trans (rreadL_end l (m0 - i) at0 bad acc (by rintro ⟨h1, h2⟩; exact hgo ⟨by omega, h2⟩))
      simp only [Prod.mk.injEq] at hRe
      obtain ⟨rfl, rfl, rfl⟩ := hRe
      obtain ⟨a8, c8, rfl, -⟩ := HOWN.out.rd.slice
      have HXO := hid hx
      have hgf : gc < wo.heap.size := by omega
      have HNF := hid (show RNodeAt (wo.alloc (.cells #[.int .i64 0, .slice none 0 0] 71)) wo.heap.size none 0 [] from ⟨_, heap_alloc_new _ _, Rd.nil _ _, rfl, by simp, by simp⟩)
      have hxf : Ext wo (wo.alloc (.cells #[.int .i64 0, .slice none 0 0] 71)) := (Ext.refl _).alloc _
      have HXF := hid hxf
      clear HRL hx
      by_cases hb : bE = true
      · subst hb
        have HN := hid (HRF.out.trans (if_pos (.inl rfl)))
        have hex : i = m0 ∨ i < m0 := by omega
        have c2' := hxf.cellS c2
        rcases hex with rfl | hm
        all_goals
          go_wp2_with fail
          go_ret3
          exact ⟨fun _ => rfl, fun s xs n h => absurd (HN.out.symm.trans h) (by simp), HXO.out.trans HXF.out⟩
      · have hbf : bE = false := by simpa using hb
        subst hbf
        have hm0 : i = m0 := by
          by_cases h : i = m0
          · exact h
          · exact absurd ⟨by omega, rfl⟩ hgo
        subst hm0
        have hRO : ∀ r ∈ X, RunOk r := fun r hr => by have := HACC.out r hr; unfold RunOk; omega
        have HRO := hid hRO
        have c2' := hxf.cellS c2
        clear hRO hb hgo hxf
        by_cases hE : extF 0 (s0 : Int) X = 0
        · have HRF2 := hid (HRF.out.trans (if_neg (by simp [hE])))
          have HE := hid hE
          have hok := (ext_ok NodeOk.empty hE).1
          rw [Int.zero_add, List.nil_append] at hok
          have HOK := hid hok
          clear hE hok
          have hpos := HPOS.out rfl
          obtain ⟨g0, o0, rfl, hg0, -⟩ := HLT.out hpos
          have b1' : (aE : Int) ≤ (cap : Int) := by omega
          have hcap0 : ¬ cap = 0 := by omega
          have htk := HV.out.cut 0 aE (Nat.zero_le _) hat0
          rw [List.drop_zero, Nat.sub_zero, Nat.sub_zero, show cutAt (some ⟨g0, o0, none⟩) cap 0 1 = some ⟨g0, o0, none⟩ by simp [cutAt, Addr.add]] at htk
          have HTK := hid htk
          obtain ⟨T, HT⟩ : ∃ T, Hid (l.take aE = T) := ⟨_, hid rfl⟩
          obtain ⟨B, HB⟩ : ∃ B, Hid (nodeB (s0 : Int) (expand X) = B) := ⟨_, hid rfl⟩
          rw [HT.out] at HTK HRF2
          rw [HB.out] at HRF2
          obtain ⟨r, hr⟩ : ∃ r, (l.drop aE).length = r := ⟨_, rfl⟩
          have hr2 : r + aE = l.length := by rw [← hr, List.length_drop]; omega
          have e9 : (l.length : Int) - (r : Int) = (aE : Int) := by omega
          have HR2 := hid hr
          clear htk hr hpos HPOS HLT HVB HAL
          by_cases hq : B = T
          · have HRF3 := hid (HRF2.out.trans (if_pos hq))
            subst hq
            go_wp2_with (go_at_call 69; go_must (refine (rExtend_any _ wo.heap.size none 0 (s0 : Int) [] HNF.out NodeOk.empty ⟨by omega, by omega⟩ _ X (HOWN.out.rd.ext HXF.out) HRO.out).mono ?_; rintro e w2 ⟨rfl, q2, HN2, hk2, hq2⟩; rw [if_pos HE.out, if_pos HE.out, Int.zero_add, List.nil_append] at HN2; rw [HE.out]; have HC2 := (HCUR.out.ext HXF.out).keep hk2 (by omega) (fun k hk => by omega); obtain ⟨ca, cc, hd0, hcc⟩ := HC2.head; dsimp only at hd0; rw [HR2.out] at hd0; have HN2' := hid HN2; have HXX := hid (Ext.keepStep (HXO.out.trans HXF.out) hk2 (by omega)); have HQ2 := hid hq2; have hcv := run_strB (HTK.out.ext HXX.out); clear HN2 hk2 hq2 HC2))
            go_region_held (fun w' => Sem.run Try.prog (convert 50 9 (.slice (some ⟨g0, o0, none⟩) aE cap)) w' = .ok (.string ⟨B.toArray⟩) w') (first | go_keep | exact hcv | exact run_strB (HTK.out.ext (HXX.out.trans (by (· repeat (first | (with_reducible assumption) | exact Ext.refl _ | refine Ext.alloc ?_ _ | refine Ext.drew ?_ | refine Ext.drewN ?_ _ | (apply Ext.snart; (with_reducible assumption)))))))) ((go_at_call 73; go_must (refine Calls.mono (rBytes_any _ _ _ _ _ (HN2'.out.ext (by (· repeat (first | (with_reducible assumption) | exact Ext.refl _ | refine Ext.alloc ?_ _ | refine Ext.drew ?_ | refine Ext.drewN ?_ _ | (apply Ext.snart; (with_reducible assumption)))))) HOK.out) ?_; rw [HB.out]; (rintro e w' ⟨v', rfl, ho', hb'⟩; have hr' := rdB_own ho'; obtain ⟨a', c', rfl⟩ := OwnB.slice ho'; (try simp only [List.nil_append, List.length_append, List.length_cons, List.length_nil, Nat.zero_add, Nat.reduceAdd] at ho' hr'); have hx' := Ext.of hb'; clear hb'); have hs' := run_strB hr'; have hsd := run_strB (hr'.ext (Ext.drew (Ext.refl w')))))) 
            all_goals
              go_wp2_with fail
              go_ret3
              refine ⟨fun h => absurd (HRF3.out.symm.trans h) (by simp), fun s xs n h => ?_, HXX.out.trans (by (· repeat (first | (with_reducible assumption) | exact Ext.refl _ | refine Ext.alloc ?_ _ | refine Ext.drew ?_ | refine Ext.drewN ?_ _ | (apply Ext.snart; (with_reducible assumption)))))⟩
              have he := HRF3.out.symm.trans h
              simp only [Option.some.injEq, Prod.mk.injEq] at he
              obtain ⟨rfl, rfl, rfl⟩ := he
              exact ⟨_, q2, rfl, HN2'.out.ext (by (· repeat (first | (with_reducible assumption) | exact Ext.refl _ | refine Ext.alloc ?_ _ | refine Ext.drew ?_ | refine Ext.drewN ?_ _ | (apply Ext.snart; (with_reducible assumption))))), HOK.out, by omega, fun k hk => by rcases HQ2.out with h | h; rw [h] at hk; exact absurd hk (by simp); have := h k hk; simp at this; omega⟩
          · have HRF3 := hid (HRF2.out.trans (if_neg hq))
            have t9 : (B == T) = false := beq_eq_false_iff_ne.2 hq
            go_wp2_with (go_at_call 69; go_must (refine (rExtend_any _ wo.heap.size none 0 (s0 : Int) [] HNF.out NodeOk.empty ⟨by omega, by omega⟩ _ X (HOWN.out.rd.ext HXF.out) HRO.out).mono ?_; rintro e w2 ⟨rfl, q2, HN2, hk2, hq2⟩; rw [if_pos HE.out, if_pos HE.out, Int.zero_add, List.nil_append] at HN2; rw [HE.out]; have HC2 := (HCUR.out.ext HXF.out).keep hk2 (by omega) (fun k hk => by omega); obtain ⟨ca, cc, hd0, hcc⟩ := HC2.head; dsimp only at hd0; rw [HR2.out] at hd0; have HN2' := hid HN2; have HXX := hid (Ext.keepStep (HXO.out.trans HXF.out) hk2 (by omega)); have HQ2 := hid hq2; have hcv := run_strB (HTK.out.ext HXX.out); clear HN2 hk2 hq2 HC2))
            go_region_held (fun w' => Sem.run Try.prog (convert 50 9 (.slice (some ⟨g0, o0, none⟩) aE cap)) w' = .ok (.string ⟨T.toArray⟩) w') (first | go_keep | exact hcv | exact run_strB (HTK.out.ext (HXX.out.trans (by (· repeat (first | (with_reducible assumption) | exact Ext.refl _ | refine Ext.alloc ?_ _ | refine Ext.drew ?_ | refine Ext.drewN ?_ _ | (apply Ext.snart; (with_reducible assumption)))))))) ((go_at_call 73; go_must (refine Calls.mono (rBytes_any _ _ _ _ _ (HN2'.out.ext (by (· repeat (first | (with_reducible assumption) | exact Ext.refl _ | refine Ext.alloc ?_ _ | refine Ext.drew ?_ | refine Ext.drewN ?_ _ | (apply Ext.snart; (with_reducible assumption)))))) HOK.out) ?_; rw [HB.out]; (rintro e w' ⟨v', rfl, ho', hb'⟩; have hr' := rdB_own ho'; obtain ⟨a', c', rfl⟩ := OwnB.slice ho'; (try simp only [List.nil_append, List.length_append, List.length_cons, List.length_nil, Nat.zero_add, Nat.reduceAdd] at ho' hr'); have hx' := Ext.of hb'; clear hb'); have hs' := run_strB hr'; have hsd := run_strB (hr'.ext (Ext.drew (Ext.refl w')))))) 
            all_goals
              go_wp2_with fail
              go_ret3
              exact ⟨fun _ => rfl, fun s xs n h => absurd (HRF3.out.symm.trans h) (by simp), HXX.out.trans (by (· repeat (first | (with_reducible assumption) | exact Ext.refl _ | refine Ext.alloc ?_ _ | refine Ext.drew ?_ | refine Ext.drewN ?_ _ | (apply Ext.snart; (with_reducible assumption)))))⟩
        · have HN := hid (HRF.out.trans (if_pos (.inr hE)))
          have t0 : (extF 0 (s0 : Int) X == 0) = false := by simpa using hE
          have HE := hid hE
          clear hE
          go_wp2_with (go_at_call 69; go_must (refine (rExtend_any _ wo.heap.size none 0 (s0 : Int) [] HNF.out NodeOk.empty ⟨by omega, by omega⟩ _ X (HOWN.out.rd.ext HXF.out) HRO.out).mono ?_; rintro e w2 ⟨rfl, q2, -, hk2, -⟩))
          go_ret3
          exact ⟨fun _ => rfl, fun s xs n h => absurd (HN.out.symm.trans h) (by simp), Ext.keepStep (HXO.out.trans HXF.out) hk2 (by omega)⟩
end Go.Proofs.Ytbpcgfplokkfpaa
