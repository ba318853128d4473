/- The document's map: Read, walked. -/
import Derived.Test.YtbpcgfplokkfpaaRAlD
import Derived.Test.YtbpcgfplokkfpaaAlZ
import Derived.Test.YtbpcgfplokkfpaaRefGU
import Derived.Deep.RegionHeld3
namespace Go.Proofs.Ytbpcgfplokkfpaa
open Go.RowKit
set_option linter.unusedVariables false
set_option linter.unusedSimpArgs false

theorem bitAt_past {l : List UInt8} {j : Nat} (h : l.length ≤ j / 8) : bitAt l j = false := by
  unfold bitAt
  rw [List.getD_eq_getElem?_getD, List.getElem?_eq_none h]
  simp
theorem bits_past {l : List UInt8} {n i : Nat} (hi : i ≤ n) (h : i = n ∨ l.length ≤ i / 8) : (bitsOf l n).take i ++ List.replicate (n - i) false = bitsOf l n := by
  apply List.ext_getElem?
  intro j
  by_cases hj : j < i
  · rw [List.getElem?_append_left (by rw [List.length_take, bitsOf_len]; omega), List.getElem?_take, if_pos hj]
  · rw [List.getElem?_append_right (by rw [List.length_take, bitsOf_len]; omega), List.length_take, bitsOf_len, Nat.min_eq_left hi, List.getElem?_replicate]
    by_cases hn : j < n
    · rw [if_pos (by omega)]
      have e : (bitsOf l n)[j]? = some (bitAt l j) := by simp [bitsOf, hn]
      rw [e, bitAt_past (by omega)]
    · rw [if_neg (by omega), List.getElem?_eq_none (by rw [bitsOf_len]; omega)]
theorem RMapAt.mono {T T' : Nat → Prop} {w : World} {g : Nat} {now last : List Bool} (h : RMapAt T w g now last) (hs : ∀ k, T k → k < w.heap.size → T' k) : RMapAt T' w g now last := by
  have hg := h.lt
  obtain ⟨vn, vl, h1, h2, h3, h4, h5, h6, h7, h8⟩ := h
  exact ⟨vn, vl, h1, h2, h3, h4, h5, hs g h6 hg, fun k hk => ⟨(h7 k hk).1, (h7 k hk).2.1, hs k (h7 k hk).2.2 (h2.lt k hk).2⟩, fun k hk => ⟨(h8 k hk).1, hs k (h8 k hk).2 (h3.lt k hk).2⟩⟩

/-- how the document's Read ends -/
def RMReadEnd (w : World) (l : List UInt8) (e : Ending) (w' : World) : Prop :=
  (∃ now g, readM l = some now ∧ e = .returned (.tuple #[.pointer (some ⟨g, 0, none⟩), .int .i64 0]) ∧ RMapAt (fun k => w.heap.size ≤ k ∧ k < w'.heap.size) w' g now now ∧ Ext w w') ∨ (readM l = none ∧ e = .returned (.tuple #[.pointer none, .int .i64 52]) ∧ Ext w w')

set_option maxRecDepth 100000 in
set_option maxHeartbeats 4000000 in
theorem RMRead_any (w : World) (v : Value) (l : List UInt8) (hv : RdB w v l) (hl63 : l.length ≤ 140737488355328) : Calls Try.prog 53 #[v] w (RMReadEnd w l) := by
  have HV := hid hv
  obtain ⟨av, cv, rfl, hc1, hc2, -⟩ := id hv
  have hfa := uintF_facts l
  have HNO := hid (readM_no (l := l))
  have HRM := hid (show readM l = if (uintF l).2.2 = 0 ∧ (uintF l).1 ≤ 512 ∧ mapB (bitsOf (l.drop (uintF l).2.1) (uintF l).1) = l then some (bitsOf (l.drop (uintF l).2.1) (uintF l).1) else none from rfl)
  clear hv
  go_enter Try.func53, Try.ntmps53
  go_wp2_with fail
  refine (RUint_any w _ l HV.out).mono ?_
  rintro e w0 ⟨rfl, hx0⟩
  have HX0 := hid (show Ext w w0 from hx0)
  clear hx0
  obtain ⟨⟨U, K, E⟩, hUKE⟩ : ∃ x, x = uintF l := ⟨_, rfl⟩
  rw [← hUKE] at HNO HRM hfa ⊢
  dsimp only at HNO HRM hfa ⊢
  clear hUKE
  obtain ⟨hf1, hf2, hf3, hf4⟩ := hfa
  by_cases hE : E = 0
  · subst hE
    have e1 : (((0 : Nat) : Int) == 0) = true := rfl
    have e2 : (((0 : Nat) : Int) != 0) = false := rfl
    by_cases hU : U ≤ 512
    · have u1 : ¬ (512 : Int) < (U : Int) := by omega
      have hu64 : IntKind.i64.wrap (U : Int) = (U : Int) := by rw [IntKind.wrap_i64]; omega
      clear hf4
      go_wp2_with fail
      refine (RNewM_ok w0 U hU).mono ?_
      rintro e w1 ⟨g, rfl, hm, hx1⟩
      obtain ⟨vn, vl, h1, h2, h3, h4, h5, h6, h7, h8⟩ := hm
      have hg := (Array.getElem?_eq_some_iff.1 h1).1
      obtain ⟨an, cn, rfl⟩ := h2.slice
      rw [List.length_replicate] at h1 h2 h7
      have c0 : w1.cell? ⟨g, 0, none⟩ = some (.slice an U cn) := (cell_of_row _ _ 0 _ _ _ h1).trans rfl
      have H1 := hid h1
      have H2 := hid h2
      have H3 := hid h3
      have HX1 := hid (HX0.out.trans hx1)
      have hs0 := HX0.out.size
      have hgn : ¬ (Value.slice an U cn).ownBlock = some g := fun e => (h7 g e).1 rfl
      clear h1 h2 h3 h4 h5 hx1 u1
      go_wp2_with fail
      go_loopw [8] (fun u8 wr => ∃ i : Nat, u8 = .int .i64 i ∧ i ≤ U ∧ OwnS rBo 4 wr 0 (fun _ => False) (.slice an U cn) ((bitsOf (l.drop K) U).take i ++ List.replicate (U - i) false) ∧ Keep (fun j => ¬ (Value.slice an U cn).ownBlock = some j) w1 wr) (fun u8 _ => U - (intOf u8).toNat)
      case atStart => exact ⟨0, rfl, by omega, by simpa using H2.out, Keep.refl _ _⟩
      case round =>
        obtain ⟨wo, rfl⟩ : ∃ wo : World, wo = wr := ⟨_, rfl⟩
        obtain ⟨i, rfl, hi, ho, hk⟩ := hrel
        have cg := hk.cell c0 hgn
        have HO := hid ho
        have HK := hid hk
        have hll : ((bitsOf (l.drop K) U).take i ++ List.replicate (U - i) false).length = U := by rw [List.length_append, List.length_take, bitsOf_len, List.length_replicate]; omega
        have hxo : Ext w wo := HX1.out.keepT (T := fun j => (Value.slice an U cn).ownBlock = some j) hk (fun j hj => by have := (h7 j hj).2.2.1; omega)
        have HXO := hid hxo
        have hi64 : (i : Int) / 8 = ((i / 8 : Nat) : Int) := by omega
        by_cases hgo : i < U ∧ K + i / 8 < l.length
        · obtain ⟨hlt, hjl⟩ := hgo
          obtain ⟨gN, nc, cuN, en, -, hgN, hrN⟩ := ho.head1 (by rw [hll]; omega)
          rw [hll] at en
          simp only [Value.slice.injEq] at en
          obtain ⟨rfl, -, rfl⟩ := en
          obtain ⟨g6, o6, n6, e6, -, -, z6⟩ := ho.rdT.atB i (by rw [hll]; exact hlt)
          simp only [Value.slice.injEq, Option.some.injEq, Addr.mk.injEq] at e6
          obtain ⟨⟨rfl, rfl, -⟩, -, -⟩ := e6
          rw [Nat.zero_add] at z6
          obtain ⟨z6v, hz6⟩ : ∃ x, wo.cell? ⟨gN, i, none⟩ = some (.bool x) := ⟨_, z6⟩
          clear z6
          have f6 := frozen_blk hrN i
          obtain ⟨gb, ob, eb, -, hgb, zb⟩ := rdB_cell (HV.out.ext hxo) (K + i / 8) hjl
          subst eb
          have HB := hid (show l[K + i / 8] = (l.drop K).getD (i / 8) 0 from by
            rw [List.getD_eq_getElem?_getD, List.getElem?_drop, List.getElem?_eq_getElem hjl]; rfl)
          generalize l[K + i / 8] = xb at zb HB
          have HST := hid (bits_step (l.drop K) U i hlt)
          have hi1 : (0 : Int) ≤ (K : Int) + ((i / 8 : Nat) : Int) := by omega
          have hi2 : (K : Int) + ((i / 8 : Nat) : Int) < (l.length : Int) := by omega
          have hi3 : ((K : Int) + ((i / 8 : Nat) : Int)).toNat = K + i / 8 := by omega
          have hbi : bitAt (l.drop K) i = decide (xb.toNat / 2 ^ (i % 8) % 2 = 1) := by rw [HB.out]; rfl
          obtain ⟨r, hr⟩ : ∃ r, r = i % 8 := ⟨_, rfl⟩
          have q2 : (i : Int) % 8 = (r : Int) := by omega
          have q2' : (i : Int).tmod 8 = (r : Int) := by rw [Int.tmod_eq_emod_of_nonneg (by omega)]; omega
          have hr8 : r < 8 := by omega
          rw [← hr] at hbi
          have HBI := hid hbi
          have hxb := xb.toNat_lt
          obtain ⟨i8, hi8⟩ : ∃ i8, i8 = i / 8 := ⟨_, rfl⟩
          rw [← hi8] at hi64 hi1 hi2 hi3 zb hjl
          clear hr hbi ho hk hrN hxo hll hi8
          go_wp2_with fail
          go_loopw [9, 10] (fun u9 u10 wr => ∃ j : Nat, u10 = .int .i64 j ∧ j ≤ r ∧ u9 = .int .i64 ((xb.toNat / 2 ^ j : Nat) : Int) ∧ wr = wo) (fun _ u10 _ => r - (intOf u10).toNat)
          case atStart => exact ⟨0, rfl, by omega, by simp, rfl⟩
          case round =>
            obtain ⟨j, rfl, hj, rfl, rfl⟩ := hrel
            have hdv := Nat.div_le_self xb.toNat (2 ^ j)
            by_cases hjr : j < r
            · have HD := hid (show xb.toNat / 2 ^ j / 2 = xb.toNat / 2 ^ (j + 1) from by rw [Nat.div_div_eq_div_mul, Nat.pow_succ])
              generalize xb.toNat / 2 ^ j = y at hdv HD ⊢
              have hy256 : y < 256 := by omega
              have hyd1 : (y : Int).tdiv 2 = (y : Int) / 2 := Int.tdiv_eq_ediv_of_nonneg (by omega)
              have hyd2 : IntKind.i64.wrap ((y : Int) / 2) = (y : Int) / 2 := by rw [IntKind.wrap_i64]; omega
              go_wp2_with fail
              go_roundw
              case rel => exact ⟨j + 1, by go_num, by omega, by (rw [← HD.out]; first | rfl | simp), trivial⟩
              case measure => simp [intOf]; omega
            · obtain rfl : j = r := by omega
              have hbi := HBI.out
              generalize xb.toNat / 2 ^ j = y at hdv hbi ⊢
              have q3 : (y : Int).tmod 2 = ((y % 2 : Nat) : Int) := by rw [Int.tmod_eq_emod_of_nonneg (by omega)]; omega
              have q3' : (y : Int) % 2 = ((y % 2 : Nat) : Int) := by omega
              rcases (show y % 2 = 0 ∨ y % 2 = 1 by omega) with hy | hy
              · rw [hy] at q3 q3'
                have hbf : bitAt (l.drop K) i = false := by rw [hbi, hy]; rfl
                have HBF := hid hbf
                clear hbi hbf hy
                go_wp2_with fail
                go_roundw
                case rel =>
                  refine ⟨i + 1, by go_num, by omega, ?_, (HK.out.setCell (p := ⟨gN, i, none⟩) (fun h => h rfl) _)⟩
                  rw [← HST.out, HBF.out]
                  exact (HO.out.set1 rfl i (by rw [List.length_append, List.length_take, bitsOf_len, List.length_replicate]; omega) _ _ rfl)
                case measure => simp [intOf]; omega
              · rw [hy] at q3 q3'
                have hbf : bitAt (l.drop K) i = true := by rw [hbi, hy]; rfl
                have HBF := hid hbf
                clear hbi hbf hy
                go_wp2_with fail
                go_roundw
                case rel =>
                  refine ⟨i + 1, by go_num, by omega, ?_, (HK.out.setCell (p := ⟨gN, i, none⟩) (fun h => h rfl) _)⟩
                  rw [← HST.out, HBF.out]
                  exact (HO.out.set1 rfl i (by rw [List.length_append, List.length_take, bitsOf_len, List.length_replicate]; omega) _ _ rfl)
                case measure => simp [intOf]; omega
        · have hend : i = U ∨ (l.drop K).length ≤ i / 8 := by rw [List.length_drop]; omega
          have hex : ¬ i < U ∨ (i < U ∧ ¬ ((K : Int) + (i : Int) / 8 < (l.length : Int))) := by omega
          have hrow : OwnS rBo 4 wo 0 (fun _ => False) (.slice an U cn) (bitsOf (l.drop K) U) := by
            have h1 := ho
            rw [bits_past hi hend] at h1
            exact h1
          have hmo : RMapAt (fun k => w0.heap.size ≤ k ∧ k < w1.heap.size) wo g (bitsOf (l.drop K) U) (List.replicate U false) :=
            ⟨_, _, (hk.block g hgn hg).trans H1.out, hrow, H3.out.kept (hk.mono fun j hj _ => by rcases hj with h | h; exact h.elim; exact fun e => (h7 j e).2.1 h), by rw [bitsOf_len, List.length_replicate], by rw [bitsOf_len]; exact hU, h6, h7, h8⟩
          have HM := hid hmo
          have hcv := run_strB (HV.out.ext hxo)
          clear hmo hrow ho hk hll cg hgo hend hxo hi64
          rcases hex with hex | ⟨hex, hex2⟩
          all_goals
            go_wp2_with fail
            by_cases hq : mapB (bitsOf (l.drop K) U) = l
            · have HQ := hid hq
              clear hq
              go_region_held (fun w' => Sem.run Try.prog (convert 50 9 (.slice av l.length cv)) w' = .ok (.string ⟨l.toArray⟩) w') (first | go_keep | exact hcv | exact run_strB (HV.out.ext (HXO.out.trans (by (· repeat (first | (with_reducible assumption) | exact Ext.refl _ | refine Ext.alloc ?_ _ | refine Ext.drew ?_ | refine Ext.drewN ?_ _ | (apply Ext.snart; (with_reducible assumption)))))))) ((go_at_call 64; go_must (refine Calls.mono (RMBytes_any _ _ g _ _ (HM.out.ext (by (· repeat (first | (with_reducible assumption) | exact Ext.refl _ | refine Ext.alloc ?_ _ | refine Ext.drew ?_ | refine Ext.drewN ?_ _ | (apply Ext.snart; (with_reducible assumption))))))) ?_; rw [HQ.out]; (rintro e w' ⟨v', rfl, ho', hb'⟩; have hr' := rdB_own ho'; obtain ⟨a', c', rfl⟩ := OwnB.slice ho'; (try simp only [List.nil_append, List.length_append, List.length_cons, List.length_nil, Nat.zero_add, Nat.reduceAdd] at ho' hr'); have hx' := Ext.of hb'; clear hb'); have hs' := run_strB hr'; have hsd := run_strB (hr'.ext (Ext.drew (Ext.refl w'))))))
              all_goals
                have HX6 : Hid (Ext wo w') := hid (by (· repeat (first | (with_reducible assumption) | exact Ext.refl _ | refine Ext.alloc ?_ _ | refine Ext.drew ?_ | refine Ext.drewN ?_ _ | (apply Ext.snart; (with_reducible assumption)))))
                clear hcv hs' hsd hr' ho'
                go_wp2_with fail
                refine (RCommit_any _ _ g _ _ (HM.out.ext (HX6.out.trans (by (· repeat (first | (with_reducible assumption) | exact Ext.refl _ | refine Ext.alloc ?_ _ | refine Ext.drew ?_ | refine Ext.drewN ?_ _ | (apply Ext.snart; (with_reducible assumption)))))))).mono ?_
                rintro e w8 ⟨rfl, hm8, hk8⟩
                have HM8 := hid hm8
                have HK8 := hid hk8
                clear hm8 hk8
                go_wp2_with fail
                go_ret2
                have e1 : Ext w _ := (HXO.out.trans (HX6.out.trans (by (· repeat (first | (with_reducible assumption) | exact Ext.refl _ | refine Ext.alloc ?_ _ | refine Ext.drew ?_ | refine Ext.drewN ?_ _ | (apply Ext.snart; (with_reducible assumption))))))).keepT HK8.out (fun k hk => by omega)
                refine .inl ⟨_, g, (HRM.out.trans (if_pos ⟨by first | rfl | trivial, hU, HQ.out⟩)), rfl, HM8.out.mono fun k hk hl => ?_, e1⟩
                have hs1 := HXO.out.size
                have hs6 := HX6.out.size
                rcases hk with h | h
                · exact ⟨by omega, hl⟩
                · have hd := h.1
                  first
                    | exact ⟨by omega, hl⟩
                    | (simp at hd; exact ⟨by omega, hl⟩)
            · have HQ := hid hq
              have t9 : (mapB (bitsOf (l.drop K) U) == l) = false := beq_eq_false_iff_ne.2 hq
              have HBq : ∃ B, Hid (mapB (bitsOf (l.drop K) U) = B) := ⟨_, hid rfl⟩
              obtain ⟨B, HB⟩ := HBq
              rw [HB.out] at t9
              clear hq
              go_region_held (fun w' => Sem.run Try.prog (convert 50 9 (.slice av l.length cv)) w' = .ok (.string ⟨l.toArray⟩) w') (first | go_keep | exact hcv | exact run_strB (HV.out.ext (HXO.out.trans (by (· repeat (first | (with_reducible assumption) | exact Ext.refl _ | refine Ext.alloc ?_ _ | refine Ext.drew ?_ | refine Ext.drewN ?_ _ | (apply Ext.snart; (with_reducible assumption)))))))) ((go_at_call 64; go_must (refine Calls.mono (RMBytes_any _ _ g _ _ (HM.out.ext (by (· repeat (first | (with_reducible assumption) | exact Ext.refl _ | refine Ext.alloc ?_ _ | refine Ext.drew ?_ | refine Ext.drewN ?_ _ | (apply Ext.snart; (with_reducible assumption))))))) ?_; rw [HB.out]; (rintro e w' ⟨v', rfl, ho', hb'⟩; have hr' := rdB_own ho'; obtain ⟨a', c', rfl⟩ := OwnB.slice ho'; (try simp only [List.nil_append, List.length_append, List.length_cons, List.length_nil, Nat.zero_add, Nat.reduceAdd] at ho' hr'); have hx' := Ext.of hb'; clear hb'); have hs' := run_strB hr'; have hsd := run_strB (hr'.ext (Ext.drew (Ext.refl w'))))))
              all_goals
                have HX6 : Hid (Ext wo w') := hid (by (· repeat (first | (with_reducible assumption) | exact Ext.refl _ | refine Ext.alloc ?_ _ | refine Ext.drew ?_ | refine Ext.drewN ?_ _ | (apply Ext.snart; (with_reducible assumption)))))
                clear hcv hs' hsd hr' ho'
                go_wp2_with fail
                go_ret2
                exact .inr ⟨HRM.out.trans (if_neg fun h => HQ.out h.2.2), rfl, HXO.out.trans (HX6.out.trans (by (· repeat (first | (with_reducible assumption) | exact Ext.refl _ | refine Ext.alloc ?_ _ | refine Ext.drew ?_ | refine Ext.drewN ?_ _ | (apply Ext.snart; (with_reducible assumption))))))⟩
    · have hnone := HNO.out (fun h => hU h.2)
      have HN := hid hnone
      have u1 : (512 : Int) < (U : Int) := by omega
      clear hnone hf4
      go_wp2_with fail
      go_ret2
      exact .inr ⟨HN.out, rfl, HX0.out⟩
  · have hnone := HNO.out (fun h => hE h.1)
    have HN := hid hnone
    have e1 : ((E : Int) == 0) = false := by rw [beq_eq_false_iff_ne]; omega
    have e2 : ((E : Int) != 0) = true := by rw [bne_iff_ne]; omega
    clear hnone hf4
    go_wp2_with fail
    go_ret2
    exact .inr ⟨HN.out, rfl, HX0.out⟩
end Go.Proofs.Ytbpcgfplokkfpaa
