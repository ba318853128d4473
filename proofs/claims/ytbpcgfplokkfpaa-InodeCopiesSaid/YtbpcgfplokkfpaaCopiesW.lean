/- InodeCopies, walked. -/
import Derived.Test.YtbpcgfplokkfpaaCopyW
namespace Go.Proofs.Ytbpcgfplokkfpaa
open Go.RowKit
set_option linter.unusedVariables false
set_option linter.unusedSimpArgs false

set_option maxRecDepth 100000 in
set_option maxHeartbeats 4000000 in
theorem inodeCopies_walk (w : World) (v : Value) (zs : List Int) (rd : RdS rI w (fun k => k < w.heap.size) v zs) (c : Int) (hc : -9223372036854775808 ≤ c ∧ c ≤ 9223372036854775807) (z : Int) (hzi : -9223372036854775808 ≤ z ∧ z ≤ 9223372036854775807) :
    Calls Try.prog 10 #[v, .int .i64 c, .int .i64 z] w fun e w' => e = .returned (.bool true) ∧ Below w.heap.size w w' := by
  obtain ⟨hr, hz, -⟩ := rdS_ints rd
  clear rd
  go_enter Try.func10, Try.ntmps10
  go_wp2_with (first | (go_at_call 16; go_must (refine (awake6_any _).mono ?_; rintro e w' ⟨rfl, hb'⟩; have hx' := Ext.of hb'; clear hb')))
  refine Calls.mono (grown_any _ _ zs (RdI.ext hr (by (· repeat (first | (with_reducible assumption) | exact Ext.refl _ | refine Ext.alloc ?_ _ | refine Ext.drew ?_ | refine Ext.drewN ?_ _ | (apply Ext.snart; (with_reducible assumption)))))) hz _ hc) ?_
  have hxa := hx'
  rintro e w' ⟨g, q, s, L, lv, rfl, HN, HO, hs24, HI, hg', hq', hap', hb'⟩
  have hx' := Ext.of hb'
  clear hb'
  have hx0 : Ext w w' := by (· repeat (first | (with_reducible assumption) | exact Ext.refl _ | refine Ext.alloc ?_ _ | refine Ext.drew ?_ | refine Ext.drewN ?_ _ | (apply Ext.snart; (with_reducible assumption))))
  have HX0 := hid hx0
  have hg0 : w.heap.size ≤ g := by have := hxa.size; omega
  obtain ⟨al, cl, rfl, -⟩ := HI.rd.slice
  have hl64 := HO.len64
  have hs1 := HO.lo
  have hs2 := HO.hi
  have hgl := HN.lt
  have HQL := hid (show ∀ k, q = some k → k < w'.heap.size by obtain ⟨_, _, _, _, _, h, _⟩ := HN; exact h)
  have hwl := whole_len L
  clear hq' hap' HI hxa hx' hr hg' hx0
  obtain ⟨B1, HB1⟩ : ∃ B, Hid (nodeB s L = B) := ⟨_, hid rfl⟩
  obtain ⟨wo, rfl⟩ : ∃ wo : World, wo = w' := ⟨_, rfl⟩
  go_wp2_with fail
  (refine Calls.mono (nodeBytes_any _ _ _ _ _ (NodeAt.ext HN ?_) HO) ?_; (· repeat (first | (with_reducible assumption) | exact Ext.refl _ | refine Ext.alloc ?_ _ | refine Ext.drew ?_ | refine Ext.drewN ?_ _ | (apply Ext.snart; (with_reducible assumption)))); rw [HB1.out]; (rintro e w' ⟨v', rfl, ho', hb'⟩; have hr' := rdB_own ho'; obtain ⟨a', c', rfl⟩ := OwnB.slice ho'; (try simp only [List.nil_append, List.length_append, List.length_cons, List.length_nil, Nat.zero_add, Nat.reduceAdd] at ho' hr'); have hx' := Ext.of hb'; clear hb'); have hs' := run_strB hr')
  go_wp2_with fail
  refine Calls.mono (nodeCopy_any _ g q s L (NodeAt.ext HN (by (· repeat (first | (with_reducible assumption) | exact Ext.refl _ | refine Ext.alloc ?_ _ | refine Ext.drew ?_ | refine Ext.drewN ?_ _ | (apply Ext.snart; (with_reducible assumption)))))) (by omega)) ?_
  have hxB := hx'
  rintro e w2 ⟨g2, q2, rfl, HN2, hg2, hq2, hb'⟩
  have hx2 := Ext.of hb'
  clear hb' hx' hs' hr' ho'
  have hsB := hxB.size
  have HNf := hid (NodeAt.ext HN (hxB.trans hx2))
  have hxo2 : Ext wo w2 := hxB.trans hx2
  have hg2' : wo.heap.size ≤ g2 := by omega
  have HQ2 := hid (show ∀ k, q2 = some k → wo.heap.size ≤ k from fun k hk => by have := hq2 k hk; omega)
  clear HN hxB hx2 hg2 hq2
  have HN := HN2
  clear HN2
  obtain ⟨p, HP⟩ : ∃ p, Hid (pickF z (s + 1).toNat = p) := ⟨_, hid rfl⟩
  have hp := pickF_lt z (s + 1).toNat (by omega)
  rw [HP.out] at hp
  go_wp2_with fail
  (refine Calls.mono (nodeBytes_any _ _ _ _ _ (NodeAt.ext HN ?_) HO) ?_; (· repeat (first | (with_reducible assumption) | exact Ext.refl _ | refine Ext.alloc ?_ _ | refine Ext.drew ?_ | refine Ext.drewN ?_ _ | (apply Ext.snart; (with_reducible assumption)))); rw [HB1.out]; (rintro e w' ⟨v', rfl, ho', hb'⟩; have hr' := rdB_own ho'; obtain ⟨a', c', rfl⟩ := OwnB.slice ho'; (try simp only [List.nil_append, List.length_append, List.length_cons, List.length_nil, Nat.zero_add, Nat.reduceAdd] at ho' hr'); have hx' := Ext.of hb'; clear hb'); have hs' := run_strB hr')
  go_wp2_with (first | (go_at_call 18; go_must (refine Calls.mono (nodeSize_any _ _ _ _ _ (NodeAt.ext HN ?_)) ?_; (· repeat (first | (with_reducible assumption) | exact Ext.refl _ | refine Ext.alloc ?_ _ | refine Ext.drew ?_ | refine Ext.drewN ?_ _ | (apply Ext.snart; (with_reducible assumption)))); rintro e w' ⟨rfl, rfl⟩)) | (go_at_call 22; go_must (refine Calls.mono (Pick_any _ _ _ ?_ ?_ ?_) ?_; (first | (with_reducible assumption) | (refine ⟨?_, ?_⟩ <;> omega)); omega; omega; rw [HP.out]; rintro e w' ⟨rfl, rfl⟩)))
  refine Calls.mono (nodeCut_any _ g2 q2 s ((p : Nat) : Int) _ (NodeAt.ext HN (by (· repeat (first | (with_reducible assumption) | exact Ext.refl _ | refine Ext.alloc ?_ _ | refine Ext.drew ?_ | refine Ext.drewN ?_ _ | (apply Ext.snart; (with_reducible assumption)))))) HO (by omega) (by omega)) ?_
  have hxB := hx'
  rintro e w3 ⟨gv, q3, rfl, HN3, -, hk3, hq3, -, -⟩
  have hsB := hxB.size
  have hso := hxo2.size
  have hk3s := hk3.size
  have HNf3 := hid ((NodeAt.ext HNf.out hxB).keep hk3 (by omega) (fun k hk e => by have := HQL.out k hk; omega))
  have HX3 := hid (HX0.out.trans ((hxo2.trans hxB).keepStep hk3 hg2'))
  have HQ3 := hid (show ∀ k, q3 = some k → wo.heap.size ≤ k from fun k hk => by have := hq3 k hk; omega)
  have hnm := nb_mono (show ((p : Nat) : Int) ≤ s by omega)
  have hn0 := nb_lo (show 0 ≤ ((p : Nat) : Int) by omega)
  have hlen := HO.len
  have HO2 : NodeOk ((p : Nat) : Int) (L.take (nb ((p : Nat) : Int)).toNat) := ⟨by omega, by omega, by rw [List.length_take]; omega, fun b hb => HO.blk b (List.mem_of_mem_take hb)⟩
  generalize L.take (nb ((p : Nat) : Int)).toNat = L2 at HN3 HO2
  clear HN hxB hx' hk3 hq3 hs' hr' ho' hnm hn0 hlen HNf hxo2
  have HOf := hid HO
  have hsz3 : wo.heap.size ≤ w3.heap.size := by omega
  clear HO
  have HN := HN3
  have HO := HO2
  clear HN3 HO2
  obtain ⟨B2, HB2⟩ : ∃ B, Hid (nodeB ((p : Nat) : Int) L2 = B) := ⟨_, hid rfl⟩
  go_wp2_with fail
  (refine Calls.mono (nodeBytes_any _ _ _ _ _ (NodeAt.ext HN ?_) HO) ?_; (· repeat (first | (with_reducible assumption) | exact Ext.refl _ | refine Ext.alloc ?_ _ | refine Ext.drew ?_ | refine Ext.drewN ?_ _ | (apply Ext.snart; (with_reducible assumption)))); rw [HB2.out]; (rintro e w' ⟨v', rfl, ho', hb'⟩; have hr' := rdB_own ho'; obtain ⟨a', c', rfl⟩ := OwnB.slice ho'; (try simp only [List.nil_append, List.length_append, List.length_cons, List.length_nil, Nat.zero_add, Nat.reduceAdd] at ho' hr'); have hx' := Ext.of hb'; clear hb'); have hs' := run_strB hr')
  go_wp2_with fail
  have hx3b := hx'
  clear hx' hs' hr' ho'
  refine Calls.mono (nodeRuns_any _ g q s L (NodeAt.ext HNf3.out (by (· repeat (first | (with_reducible assumption) | exact Ext.refl _ | refine Ext.alloc ?_ _ | refine Ext.drew ?_ | refine Ext.drewN ?_ _ | (apply Ext.snart; (with_reducible assumption)))))) (by omega)) ?_
  rintro e w5 ⟨rv, rfl, hrv, -, hb'⟩
  have hx5 := Ext.of hb'
  clear hb'
  have HRV := hid hrv
  obtain ⟨ra, rc, rfl, -⟩ := hrv.rd.slice
  clear hrv
  go_wp2_with fail
  go_loopw [15] (fun u15 wr => ∃ i : Nat, ∃ xs : List Run, i ≤ (whole L).length ∧ xs.length = (whole L).length ∧ u15 = .int .i64 i ∧ OwnR wr w'.heap.size (.slice ra (whole L).length rc) xs ∧ Ext w' wr) (fun i _ => (whole L).length - (intOf i).toNat)
  case atStart => exact ⟨0, whole L, by omega, rfl, rfl, HRV.out, hx5⟩
  case round =>
    obtain ⟨i, xs, hi, hxs, rfl, hown, hxr⟩ := hrel
    have HOW := hid hown
    by_cases hlt : i < (whole L).length
    · have hlt2 : i < xs.length := by omega
      obtain ⟨rb, rc', e, hrb, hrl, c0, c1, f0, f1⟩ := hown.at i hlt2
      simp only [Value.slice.injEq] at e
      obtain ⟨rfl, -, rfl⟩ := e
      have i1 : (i : Int) < ((whole L).length : Int) := by omega
      have i3 : (0 : Int) ≤ (i : Int) := by omega
      clear hown
      go_wp2_with fail
      go_roundw
      case rel =>
        have o1 := HOW.out.setFrom i hlt2 1 hxs.symm
        have o2 := o1.setLen i (by rw [List.length_set]; exact hlt2) 1 (by rw [List.length_set]; exact hxs.symm)
        exact ⟨i + 1, _, by omega, by simp [hxs], by go_num, o2, (hxr.setCell (by simp; omega) _).setCell (by simp; omega) _⟩
      case measure => simp [intOf]; omega
    · obtain rfl : i = (whole L).length := by omega
      clear hown
      go_wp2_with fail
      have hxw' : Ext w3 wr := hx3b.trans hxr
      refine Calls.mono (nodeCut_any _ g q s 0 _ (NodeAt.ext HNf3.out hxw') HOf.out (by omega) hs1) ?_
      rintro e w6 ⟨gv6, q6, rfl, HN6, -, hk6, hq6, -, -⟩
      have hsr := hxw'.size
      have HN7 := (NodeAt.ext HN hxw').keep hk6 (by omega) (fun k hk e => by have := HQ3.out k hk; omega)
      have HX6 := hid ((HX3.out.trans hxw').keepStep hk6 hg0)
      have HNf6 := hid HN6
      clear HN HN6 hxw' hxr hx3b hx5
      have HN := HN7
      clear HN7
      go_wp2_with fail
      (refine Calls.mono (nodeBytes_any _ _ _ _ _ (NodeAt.ext HN ?_) HO) ?_; (· repeat (first | (with_reducible assumption) | exact Ext.refl _ | refine Ext.alloc ?_ _ | refine Ext.drew ?_ | refine Ext.drewN ?_ _ | (apply Ext.snart; (with_reducible assumption)))); rw [HB2.out]; (rintro e w' ⟨v', rfl, ho', hb'⟩; have hr' := rdB_own ho'; obtain ⟨a', c', rfl⟩ := OwnB.slice ho'; (try simp only [List.nil_append, List.length_append, List.length_cons, List.length_nil, Nat.zero_add, Nat.reduceAdd] at ho' hr'); have hx' := Ext.of hb'; clear hb'); have hs' := run_strB hr')
      have HN' := NodeAt.ext HNf6.out hx'
      clear HN
      have HN := HN'
      go_wp2_with (refine Calls.mono (nodeSize_any _ g _ _ _ HN) ?_; rintro e w' ⟨rfl, rfl⟩)
      go_ret
      exact ⟨rfl, by show Ext _ _; exact HX6.out.trans hx'⟩
end Go.Proofs.Ytbpcgfplokkfpaa
