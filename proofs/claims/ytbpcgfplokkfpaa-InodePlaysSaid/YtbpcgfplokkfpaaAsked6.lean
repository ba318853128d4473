/- The inode laws' asked, walked. -/
import Derived.Test.YtbpcgfplokkfpaaRBytes
import Derived.Test.YtbpcgfplokkfpaaRExt
import Derived.Test.YtbpcgfplokkfpaaCopyW
import Derived.Test.YtbpcgfplokkfpaaSameR
namespace Go.Proofs.Ytbpcgfplokkfpaa
open Go.RowKit
set_option linter.unusedVariables false
set_option linter.unusedSimpArgs false

theorem OwnB.setAt {w : World} {base g n cap : Nat} {l : List UInt8} (h : OwnB w base (.slice (some ⟨g, 0, none⟩) n cap) l) (hn : n = l.length) (j : Nat) (b : UInt8) : OwnB (w.setCell ⟨g, j, none⟩ (bv b)) base (.slice (some ⟨g, 0, none⟩) n cap) (l.set j b) := by
  subst hn
  have := (World.ownsRow.stored h j (bv b)).1
  unfold OwnB
  rw [List.length_set, show bvs (l.set j b) = (bvs l).set j (bv b) from by simp [bvs, List.map_set]]
  exact this
theorem OwnB.blockAt {w : World} {base : Nat} {v : Value} {l : List UInt8} (h : OwnB w base v l) (hl : 0 < l.length) : ∃ g cap, v = .slice (some ⟨g, 0, none⟩) l.length cap ∧ base ≤ g ∧ g < w.heap.size := by
  rcases h.2 with ⟨e, h0⟩ | ⟨g, cap, cur, e, h3⟩
  · omega
  · exact ⟨g, cap, e, h3.1, (Array.getElem?_eq_some_iff.1 h3.2.1).1⟩

set_option maxRecDepth 100000 in
set_option maxHeartbeats 4000000 in
theorem asked6_any (w : World) (g g' : Nat) (q q' : Option Nat) (s : Int) (L : List Int) (h : NodeAt w g q s L) (hr : RNodeAt w g' q' s L) (ho : NodeOk s L) :
    Calls Try.prog 49 #[.pointer (some ⟨g, 0, none⟩), .pointer (some ⟨g', 0, none⟩)] w fun e w' => e = .returned (.bool true) ∧ Below w.heap.size w w' := by
  have H := hid h
  have HR := hid hr
  have HO := hid ho
  have hl64 := ho.len64
  have hs1 := ho.lo
  have hs2 := ho.hi
  have hlen := ho.len
  have hwl := whole_len L
  clear h hr ho
  go_enter Try.func49, Try.ntmps49
  go_wp2_with fail
  refine (nodeRuns_any w g q s L H.out (by omega)).mono ?_
  rintro e w1 ⟨v1, rfl, ho1, -, hb1⟩
  have hx1 := Ext.of hb1
  have HO1 := hid ho1
  obtain ⟨ra, rc, rfl, -⟩ := ho1.rd.slice
  clear hb1 ho1
  go_wp2_with fail
  refine (rRuns_any w1 g' q' s L (HR.out.ext hx1) HO.out).mono ?_
  rintro e w2 ⟨v2, rfl, ho2, -, hb2⟩
  have hx2 := Ext.of hb2
  have HO2 := hid ho2
  clear hb2 ho2
  go_wp2_with fail
  refine (SameRuns_any w2 _ _ (whole L) (whole L) (HO1.out.rd.ext hx2) HO2.out.rd).mono ?_
  rw [decide_eq_true rfl]
  rintro e w3 ⟨rfl, hb3⟩
  have hx3 := Ext.of hb3
  have HX13 := hid (hx2.trans hx3)
  clear hb3
  have hx03 : Ext w w3 := hx1.trans (hx2.trans hx3)
  have HX03 := hid hx03
  have HO3 := hid (HO1.out.ext (hx2.trans hx3))
  clear HO2 HO1 hx1 hx2 hx3 hx03
  have hwl2 : (whole L).length ≤ 64 := by omega
  have HWL := hid (show (whole L).length = (whole L).length from rfl)
  generalize hN : (whole L).length = N at *
  have HN := hid hN
  clear hN
  go_wp2_with fail
  go_loopw [7] (fun u7 wr => ∃ i : Nat, ∃ xs : List Run, i ≤ N ∧ xs.length = N ∧ u7 = .int .i64 i ∧ OwnR wr w.heap.size (.slice ra N rc) xs ∧ Ext w wr) (fun i _ => N - (intOf i).toNat)
  case atStart => exact ⟨0, whole L, by omega, HN.out, rfl, HO3.out, HX03.out⟩
  case round =>
    obtain ⟨i, xs, hi, hxs, rfl, hown, hxr⟩ := hrel
    have HOW := hid hown
    have HXS := hid hxs
    by_cases hlt : i < N
    · have hlt2 : i < xs.length := by omega
      obtain ⟨rb, rc', e, hrb, hrl, c0, c1, f0, f1⟩ := hown.at i hlt2
      simp only [Value.slice.injEq] at e
      obtain ⟨rfl, -, rfl⟩ := e
      have i1 : (i : Int) < (N : Int) := by omega
      have i3 : (0 : Int) ≤ (i : Int) := by omega
      clear hown hxs
      go_wp2_with fail
      go_roundw
      case rel =>
        have o2 := HOW.out.setLen i (by rw [HXS.out]; exact hlt) 99 HXS.out.symm
        exact ⟨i + 1, _, by omega, by rw [List.length_set]; exact HXS.out, by go_num, o2, hxr.setCell (by simp; omega) _⟩
      case measure => simp [intOf]; omega
    · obtain rfl : i = N := by omega
      have HX4 := hid hxr
      obtain ⟨B, HB⟩ : ∃ B, Hid (nodeB s L = B) := ⟨_, hid rfl⟩
      have HBL := hid (show B.length ≤ 1300 by rw [← HB.out]; have h1 := putU_len s.toNat; have h2 := putU_len (whole L).length; have h3 := runsB_len (whole L); have := HN.out; unfold nodeB; rw [List.length_append, List.length_append]; omega)
      clear hown hxs hxr HOW HO3 HX03
      obtain ⟨wo, rfl⟩ : ∃ wo : World, wo = wr := ⟨_, rfl⟩
      go_wp2_with fail
      refine Calls.mono (nodeBytes_any _ g q s L (H.out.ext HX4.out) HO.out) ?_
      rw [HB.out]
      rintro e w5 ⟨v5, rfl, ho5, hb5⟩
      have hx5 := Ext.of hb5
      have HO5 := hid ho5
      have hr5 := rdB_own ho5
      obtain ⟨ba, bc, rfl⟩ := OwnB.slice ho5
      have HR5 := hid hr5
      have hcv := run_strB hr5
      clear hb5 ho5 hr5
      go_wp2_with fail
      go_region_held (fun w' => Sem.run Try.prog (convert 50 9 (.slice ba B.length bc)) w' = .ok (.string ⟨B.toArray⟩) w') (first | go_keep | exact hcv | exact run_strB (HR5.out.ext (by (· repeat (first | (with_reducible assumption) | exact Ext.refl _ | refine Ext.alloc ?_ _ | refine Ext.drew ?_ | refine Ext.drewN ?_ _ | (apply Ext.snart; (with_reducible assumption))))))) ((go_at_call 73; go_must (refine Calls.mono (rBytes_any _ g' q' s L (HR.out.ext (HX4.out.trans (hx5.trans (by (· repeat (first | (with_reducible assumption) | exact Ext.refl _ | refine Ext.alloc ?_ _ | refine Ext.drew ?_ | refine Ext.drewN ?_ _ | (apply Ext.snart; (with_reducible assumption)))))))) HO.out) ?_; rw [HB.out]; (rintro e w' ⟨v', rfl, ho', hb'⟩; have hr' := rdB_own ho'; obtain ⟨a', c', rfl⟩ := OwnB.slice ho'; (try simp only [List.nil_append, List.length_append, List.length_cons, List.length_nil, Nat.zero_add, Nat.reduceAdd] at ho' hr'); have hx' := Ext.of hb'; clear hb'); have hs' := run_strB hr'; have hsd := run_strB (hr'.ext (Ext.drew (Ext.refl w'))))))
      all_goals
        have HX6 : Hid (Ext w5 w') := hid (by (· repeat (first | (with_reducible assumption) | exact Ext.refl _ | refine Ext.alloc ?_ _ | refine Ext.drew ?_ | refine Ext.drewN ?_ _ | (apply Ext.snart; (with_reducible assumption)))))
        have HXA := hid (HX4.out.trans (hx5.trans HX6.out))
        have hsz4 := HX4.out.size
        have HB6 := hid ((HO5.out.ext HX6.out).low hsz4)
        have HBN := HBL.out
        generalize hBn : B.length = bn at *
        have HBn := hid hBn
        clear hBn hcv hs' hsd hr' ho' HB HBL HR5 HO5
        go_wp2_with fail
        go_loopw [10] (fun u10 wr => ∃ j : Nat, ∃ bs : List UInt8, j ≤ bn ∧ bs.length = bn ∧ u10 = .int .i64 j ∧ OwnB wr w.heap.size (.slice ba bn bc) bs ∧ Ext w wr) (fun j _ => bn - (intOf j).toNat)
        case atStart => exact ⟨0, B, by omega, HBn.out, rfl, HB6.out, HXA.out⟩
        case round =>
          obtain ⟨j, bs, hj, hbs, rfl, hown, hxr⟩ := hrel
          have HOW := hid hown
          have HBS := hid hbs
          by_cases hlt : j < bn
          · obtain ⟨rb, rcap, e, hrb, hrl⟩ := OwnB.blockAt hown (by omega)
            simp only [Value.slice.injEq] at e
            obtain ⟨rfl, -, rfl⟩ := e
            have i1 : (j : Int) < (bn : Int) := by omega
            have i3 : (0 : Int) ≤ (j : Int) := by omega
            have f0 : wr.frozen? ⟨rb, j, none⟩ = false := by have h8 := hown; rw [← hbs] at h8; exact World.ownsRow.frozenAt h8 _
            obtain ⟨b0, c0⟩ : ∃ b0 : Int, wr.cell? ⟨rb, j, none⟩ = some (.int .u8 b0) := by
              have h1 := rdB_own hown
              obtain ⟨a2, c2, e2, -, -, -, h5⟩ := h1
              simp only [Value.slice.injEq] at e2
              obtain ⟨rfl, -, rfl⟩ := e2
              obtain ⟨g2, o2, e3, hg2, hc⟩ := h5 (by omega)
              simp only [Option.some.injEq, Addr.mk.injEq, and_true] at e3
              obtain ⟨rfl, rfl⟩ := e3
              have h2 := hc j (by omega)
              rw [Nat.zero_add] at h2
              rw [h2]
              simp [bvs, bv, hbs ▸ hlt]
            clear hown hbs
            go_wp2_with fail
            go_roundw
            case rel => exact ⟨j + 1, bs.set j 9, by omega, by rw [List.length_set]; exact HBS.out, by go_num, HOW.out.setAt HBS.out.symm j 9, hxr.setCell (by simp; omega) _⟩
            case measure => simp [intOf]; omega
          · obtain rfl : j = bn := by omega
            obtain ⟨na, nc, d0, d1, -, -, -, -, -⟩ := (HR.out.ext hxr).cells
            have HN7 := hid (H.out.ext hxr)
            have hnl : (L.length : Int) = nb s := hlen
            clear hown hbs HOW
            go_wp2_with fail
            go_quiet (first | (go_at_call 18; exact quiet_left (nodeSize_any _ g q s L (HN7.out.ext ((Ext.refl _).drewN _)))) | (go_at_call 20; exact quiet_left (nodeBlocks_any _ g q s L (HN7.out.ext ((Ext.refl _).drewN _)) HO.out)))
            go_wp2_with fail
            go_ret
            exact ⟨by simp [hnl], by show Ext _ _; exact hxr.drewN _⟩
end Go.Proofs.Ytbpcgfplokkfpaa
