/- Map.Give, walked. -/
import Derived.Test.YtbpcgfplokkfpaaAlG
namespace Go.Proofs.Ytbpcgfplokkfpaa
open Go.RowKit
set_option linter.unusedVariables false
set_option linter.unusedSimpArgs false

def rRn : Rdr (Int × Int) := rPair rI rI
/-- the blocks from a on, k of them, no longer in use -/
def clr (now : List Bool) (a : Nat) : Nat → List Bool
  | 0 => now
  | k + 1 => (clr now a k).set (a + k) false
theorem clr_len (now : List Bool) (a : Nat) : ∀ k, (clr now a k).length = now.length
  | 0 => rfl
  | k + 1 => by rw [clr, List.length_set, clr_len now a k]
theorem clr_get (now : List Bool) (a : Nat) : ∀ k i, a + k ≤ i → (clr now a k)[i]? = now[i]?
  | 0, _, _ => rfl
  | k + 1, i, h => by rw [clr, List.getElem?_set_ne (by omega), clr_get now a k i (by omega)]
def runIn (now : List Bool) (r : Int × Int) : Prop := 1 ≤ r.2 ∧ 0 ≤ r.1 ∧ r.1 < (now.length : Int) ∧ r.2 ≤ (now.length : Int) - r.1
instance (now : List Bool) (r : Int × Int) : Decidable (runIn now r) := by unfold runIn; infer_instance
def giveRun (now : List Bool) (r : Int × Int) : Option (List Bool) :=
  if runIn now r ∧ (List.range' r.1.toNat r.2.toNat).all (fun i => now.getD i false) = true then some (clr now r.1.toNat r.2.toNat) else none
def giveF (now : List Bool) : List (Int × Int) → Option (List Bool)
  | [] => some now
  | r :: l => (giveRun now r).bind fun n => giveF n l
theorem giveF_snoc (l : List (Int × Int)) (r : Int × Int) : ∀ now, giveF now (l ++ [r]) = (giveF now l).bind fun n => giveRun n r := by
  induction l with
  | nil => intro now; show ((giveRun now r).bind fun n => some n) = giveRun now r; cases giveRun now r <;> rfl
  | cons a l ih =>
    intro now
    simp only [List.cons_append, giveF]
    cases giveRun now a with
    | none => rfl
    | some n => exact ih n
theorem giveF_none {l : List (Int × Int)} {now : List Bool} : ∀ (m : List (Int × Int)), giveF now l = none → giveF now (l ++ m) = none := by
  intro m
  induction l generalizing now with
  | nil => intro h; cases h
  | cons a l ih =>
    intro h
    simp only [List.cons_append, giveF] at h ⊢
    cases hg : giveRun now a with
    | none => rfl
    | some n => rw [hg] at h; exact ih h
theorem giveRun_len {now n : List Bool} {r : Int × Int} (h : giveRun now r = some n) : n.length = now.length := by
  unfold giveRun at h
  split at h
  · cases h; exact clr_len _ _ _
  · cases h
theorem giveF_len : ∀ {l : List (Int × Int)} {now n : List Bool}, giveF now l = some n → n.length = now.length := by
  intro l
  induction l with
  | nil => intro now n h; cases h; rfl
  | cons a l ih =>
    intro now n h
    simp only [giveF] at h
    cases hg : giveRun now a with
    | none => rw [hg] at h; cases h
    | some m => rw [hg] at h; rw [ih h, giveRun_len hg]

theorem give_bad {now cur : List Bool} {rs : List (Int × Int)} {i : Nat} {r : Int × Int} (h : giveF now (rs.take i) = some cur) (ht : rs.take (i + 1) = rs.take i ++ [r]) (hb : giveRun cur r = none) : giveF now rs = none := by
  rw [← List.take_append_drop (i + 1) rs]
  refine giveF_none _ ?_
  rw [ht, giveF_snoc, h]
  exact hb
theorem giveRun_out {cur : List Bool} {r : Int × Int} (h : ¬ runIn cur r) : giveRun cur r = none := if_neg fun h' => h h'.1
theorem OwnS.head1 {α : Type} {r : Rdr α} {t : TypeId} {w : World} {base : Nat} {S : Nat → Prop} {v : Value} {xs : List α} (h : OwnS r t w base S v xs) (hn : 0 < xs.length) : ∃ g c cur, v = .slice (some ⟨g, 0, none⟩) xs.length c ∧ base ≤ g ∧ g < w.heap.size ∧ w.heap[g]? = some (.cells cur t (0, 0)) := by
  obtain ⟨gs, rfl, ⟨h1, h2⟩, h3, h4⟩ := h
  rcases h2 with ⟨h2, h2'⟩ | ⟨g', cap', cur, h2, hb, hg, hn, hm, hcs, hx⟩
  · rw [List.length_map, h2'] at hn; exact absurd hn (Nat.lt_irrefl _)
  · subst h2
    exact ⟨g', cap', cur, by rw [List.length_map], hb, (Array.getElem?_eq_some_iff.1 hg).1, hg⟩

set_option maxRecDepth 100000 in
set_option maxHeartbeats 2000000 in
theorem Give_any (T : Nat → Prop) (w : World) (g : Nat) (now last : List Bool) (h : MapAt T w g now last) (S : Nat → Prop) (lv : Value) (rs : List (Int × Int)) (hr : RdS rRn w S lv rs) :
    Calls Try.prog 26 #[.pointer (some ⟨g, 0, none⟩), lv] w fun e w' =>
      (∃ n, giveF now rs = some n ∧ e = .returned (.int .i64 0) ∧ MapAt (Newer T w w') w' g n last ∧ Keep (fun k => ¬ T k) w w') ∨ (giveF now rs = none ∧ e = .returned (.int .i64 51) ∧ Ext w w') := by
  have H := hid h
  obtain ⟨vn, vl, h1, h2, h3, h4, h5, -⟩ := h
  have hg := (Array.getElem?_eq_some_iff.1 h1).1
  have c0 : w.cell? ⟨g, 0, none⟩ = some vn := (cell_of_row _ _ 0 _ _ _ h1).trans rfl
  have H2 := hid h2
  have H1 := hid h1
  obtain ⟨na, nc, rfl⟩ := h2.slice
  obtain ⟨la, lc, rfl, hl1, hl2⟩ := hr.slice
  have HR := hid hr
  clear h1 h2 h3 h4 hr
  go_enter Try.func26, Try.ntmps26
  go_wp2_with fail
  refine (CloneB_any w _ _ now H2.out.rdT (by omega)).mono ?_
  rintro e w1 ⟨v', rfl, ho, hx⟩
  obtain ⟨a1, n1, rfl⟩ := ho.slice
  have HO := hid ho
  have HX := hid hx
  clear ho hx c0
  go_wp2_with fail
  go_loopw [18] (fun u18 wr => ∃ (i : Nat) (cur : List Bool), u18 = .int .i64 i ∧ i ≤ rs.length ∧ giveF now (rs.take i) = some cur ∧ OwnS rBo 4 wr w.heap.size (fun _ => False) (.slice a1 now.length n1) cur ∧ Ext w wr) (fun u18 _ => rs.length - (intOf u18).toNat)
  case atStart => exact ⟨0, now, rfl, by omega, rfl, HO.out, HX.out⟩
  case round =>
    obtain ⟨wo, rfl⟩ : ∃ wo : World, wo = wr := ⟨_, rfl⟩
    obtain ⟨i, cur, rfl, hi, hgv, ho, hx⟩ := hrel
    have hcl := giveF_len hgv
    have HGV := hid hgv
    have HCL := hid hcl
    have HO1 := hid ho
    have HX1 := hid hx
    have hsx := hx.size
    clear hgv hcl ho hx
    by_cases hlt : i < rs.length
    · obtain ⟨gr, orr, cr, cs, er, hgr, -, hcs, hcc, hrd⟩ := (HR.out.ext HX1.out).at i hlt
      simp only [Value.slice.injEq] at er
      obtain ⟨rfl, -, rfl⟩ := er
      have HTS := hid (List.take_succ_eq_append_getElem hlt)
      generalize hri : rs[i] = r at hrd HTS
      obtain ⟨rf, rl⟩ := r
      have hcells : cs = [.int .i64 rf, .int .i64 rl] ∧ (-9223372036854775808 ≤ rf ∧ rf ≤ 9223372036854775807) ∧ (-9223372036854775808 ≤ rl ∧ rl ≤ 9223372036854775807) := by
        obtain ⟨_, _, rfl, ⟨rfl, b1⟩, rfl, b2⟩ := hrd
        exact ⟨rfl, b1, b2⟩
      obtain ⟨rfl, ⟨b1, b2⟩, ⟨b3, b4⟩⟩ := hcells
      have d0 := hcc 0 _ rfl
      have d1 := hcc 1 _ rfl
      simp only [← Nat.add_assoc, Nat.add_zero, show rRn.size = 2 from rfl] at d0 d1
      clear hcc hrd hcs hri
      by_cases t1 : rl < 1
      · have hnone := give_bad HGV.out HTS.out (giveRun_out fun h => by unfold runIn at h; dsimp only at h; have := HCL.out; omega)
        have HN := hid hnone
        clear hnone
        go_wp2_with fail
        go_ret
        exact .inr ⟨HN.out, rfl, HX1.out.trans (show Ext wo _ by (· repeat (first | (with_reducible assumption) | exact Ext.refl _ | refine Ext.alloc ?_ _ | refine Ext.drew ?_ | refine Ext.drewN ?_ _ | (apply Ext.snart; (with_reducible assumption)))))⟩
      · by_cases t2 : rf < 0
        · have hnone := give_bad HGV.out HTS.out (giveRun_out fun h => by unfold runIn at h; dsimp only at h; have := HCL.out; omega)
          have HN := hid hnone
          clear hnone
          go_wp2_with fail
          go_ret
          exact .inr ⟨HN.out, rfl, HX1.out.trans (show Ext wo _ by (· repeat (first | (with_reducible assumption) | exact Ext.refl _ | refine Ext.alloc ?_ _ | refine Ext.drew ?_ | refine Ext.drewN ?_ _ | (apply Ext.snart; (with_reducible assumption)))))⟩
        · by_cases t3 : (now.length : Int) ≤ rf
          · have hnone := give_bad HGV.out HTS.out (giveRun_out fun h => by unfold runIn at h; dsimp only at h; have := HCL.out; omega)
            have HN := hid hnone
            clear hnone
            go_wp2_with fail
            go_ret
            exact .inr ⟨HN.out, rfl, HX1.out.trans (show Ext wo _ by (· repeat (first | (with_reducible assumption) | exact Ext.refl _ | refine Ext.alloc ?_ _ | refine Ext.drew ?_ | refine Ext.drewN ?_ _ | (apply Ext.snart; (with_reducible assumption)))))⟩
          · by_cases t4 : (now.length : Int) - rf < rl
            · have hnone := give_bad HGV.out HTS.out (giveRun_out fun h => by unfold runIn at h; dsimp only at h; have := HCL.out; omega)
              have HN := hid hnone
              clear hnone
              go_wp2_with fail
              go_ret
              exact .inr ⟨HN.out, rfl, HX1.out.trans (show Ext wo _ by (· repeat (first | (with_reducible assumption) | exact Ext.refl _ | refine Ext.alloc ?_ _ | refine Ext.drew ?_ | refine Ext.drewN ?_ _ | (apply Ext.snart; (with_reducible assumption)))))⟩
            · obtain ⟨a, rfl⟩ : ∃ a : Nat, rf = (a : Int) := ⟨rf.toNat, by omega⟩
              obtain ⟨k, rfl⟩ : ∃ k : Nat, rl = (k : Int) := ⟨rl.toNat, by omega⟩
              have hak : a + k ≤ now.length := by omega
              go_upto_region 9 with fail
              obtain ⟨gB, hgB⟩ : ∃ gB, gB = wo.heap.size := ⟨_, rfl⟩
              have hnew := heap_alloc_new wo (.cells #[.int .i64 (a : Int), .int .i64 (k : Int)] 43)
              have hxa : Ext wo (wo.alloc (.cells #[.int .i64 (a : Int), .int .i64 (k : Int)] 43)) := (Ext.refl wo).alloc _
              have hsa : (wo.alloc (.cells #[.int .i64 (a : Int), .int .i64 (k : Int)] 43)).heap.size = wo.heap.size + 1 := by simp
              rw [← hgB] at hnew hsa ⊢
              generalize (wo.alloc (.cells #[.int .i64 (a : Int), .int .i64 (k : Int)] 43)) = wa at hnew hxa hsa ⊢
              have c1 : wa.cell? ⟨gB, 1, none⟩ = some (.int .i64 (k : Int)) := (cell_of_row _ _ 1 _ _ _ hnew).trans rfl
              have HNEW := hid hnew
              have HXA := hid hxa
              have HGB := hid hgB
              have HOA := hid (HO1.out.ext hxa)
              clear hnew hxa hsa hgB d0 d1
              go_wp2_with fail
              go_loopw [49] (fun u49 wr2 => ∃ j : Nat, u49 = .int .i64 j ∧ j ≤ k ∧ (∀ q, q < j → cur.getD (a + q) false = true) ∧ OwnS rBo 4 wr2 w.heap.size (fun _ => False) (.slice a1 now.length n1) (clr cur a j) ∧ Ext w wr2 ∧ wr2.heap[gB]? = some (.cells #[.int .i64 (a : Int), .int .i64 (k : Int)] 43 (0, 0))) (fun u49 _ => k - (intOf u49).toNat)
              case atStart => exact ⟨0, rfl, by omega, fun q hq => by omega, HOA.out, HX1.out.trans HXA.out, HNEW.out⟩
              case round =>
                obtain ⟨w2, rfl⟩ : ∃ w2 : World, w2 = wr := ⟨_, rfl⟩
                obtain ⟨j, rfl, hj, hq, ho2, hx2, hrow⟩ := hrel
                have HQ := hid hq
                have HO2 := hid ho2
                have HX2 := hid hx2
                have HROW := hid hrow
                have hcl := HCL.out
                clear hq hx2 
                by_cases hjk : j < k
                · have hcll := clr_len cur a j
                  obtain ⟨g1, cc1, cu1, e1, hb1, hg1, hr1⟩ := ho2.head1 (by omega)
                  obtain ⟨g2, o2, cc2, e2, hg2, -, z2⟩ := ho2.rdT.atB (a + j) (by omega)
                  rw [hcll, hcl] at e1 e2
                  simp only [Value.slice.injEq] at e1 e2
                  obtain ⟨rfl, -, rfl⟩ := e1
                  obtain ⟨e2, -, -⟩ := e2
                  simp only [Option.some.injEq, Addr.mk.injEq] at e2
                  obtain ⟨rfl, rfl, -⟩ := e2
                  rw [Nat.zero_add] at z2
                  have hv : (clr cur a j)[a + j]'(by omega) = cur.getD (a + j) false := by
                    have h1 := clr_get cur a j (a + j) (Nat.le_refl _)
                    rw [List.getD_eq_getElem?_getD, ← h1, List.getElem?_eq_getElem (by omega)]; rfl
                  rw [hv] at z2
                  have q0 : w2.cell? ⟨gB, 0, none⟩ = some (.int .i64 (a : Int)) := (cell_of_row _ _ 0 _ _ _ hrow).trans rfl
                  have q1 : w2.cell? ⟨gB, 1, none⟩ = some (.int .i64 (k : Int)) := (cell_of_row _ _ 1 _ _ _ hrow).trans rfl
                  have f1 := frozen_blk hr1 (a + j)
                  have haj : a + j < now.length := by omega
                  have hne : g1 ≠ gB := fun e => by
                    subst e
                    rw [hr1] at hrow
                    simp at hrow
                  cases hb : cur.getD (a + j) false with
                  | true =>
                    rw [hb] at z2
                    have HB := hid hb
                    have HR1 := hid hr1
                    clear hb hv hrow ho2 hr1 hcll hcl
                    go_wp2_with fail
                    go_roundw
                    case rel =>
                      refine ⟨j + 1, by go_num, by omega, fun q hq => ?_, HO2.out.set1 rfl (a + j) (by have := clr_len cur a j; have := HCL.out; omega) _ false rfl, HX2.out.setCell (p := ⟨g1, a + j, none⟩) hb1 _, (Below.heap_setCell w2 ⟨g1, a + j, none⟩ _ gB (fun e => hne e.symm)).trans HROW.out⟩
                      rcases Nat.lt_or_ge q j with h | h
                      · exact HQ.out q h
                      · obtain rfl : q = j := by omega
                        exact HB.out
                    case measure => simp [intOf]; omega
                  | false =>
                    rw [hb] at z2
                    have hnone := give_bad HGV.out HTS.out (show giveRun cur ((a : Int), (k : Int)) = none from if_neg fun h => by
                      have h2 := List.all_eq_true.1 h.2 (a + j) (by simp only [Int.toNat_natCast]; exact List.mem_range'.2 ⟨j, by omega, by omega⟩)
                      rw [hb] at h2; cases h2)
                    have HN := hid hnone
                    clear hnone hb hv hrow ho2 hr1 hcll hcl
                    go_wp2_with fail
                    go_ret
                    exact .inr ⟨HN.out, rfl, HX2.out⟩
                · obtain rfl : j = k := by omega
                  have hrun : giveRun cur ((a : Int), (j : Int)) = some (clr cur a j) := by
                    unfold giveRun
                    simp only [Int.toNat_natCast]
                    refine if_pos ⟨by unfold runIn; dsimp only; omega, List.all_eq_true.2 fun x hx => ?_⟩
                    obtain ⟨q, hq, rfl⟩ := List.mem_range'.1 hx
                    rw [Nat.one_mul]
                    exact HQ.out q hq
                  have HRUN := hid hrun
                  have q1 : w2.cell? ⟨gB, 1, none⟩ = some (.int .i64 (j : Int)) := (cell_of_row _ _ 1 _ _ _ hrow).trans rfl
                  clear hrun hrow ho2 hcl
                  go_wp2_with fail
                  go_roundw
                  case rel => exact ⟨i + 1, clr cur a j, by go_num, by omega, by rw [HTS.out, giveF_snoc, HGV.out]; exact HRUN.out, HO2.out, HX2.out⟩
                  case measure => simp [intOf]; omega
    · obtain rfl : i = rs.length := by omega
      have hgv := HGV.out
      rw [List.take_length] at hgv
      have c0 : wo.cell? ⟨g, 0, none⟩ = some (.slice na now.length nc) := (cell_of_row _ _ 0 _ _ _ ((Below.block HX1.out g hg).trans H1.out)).trans rfl
      have f0 := frozen_blk ((Below.block HX1.out g hg).trans H1.out) 0
      have HG := hid hgv
      clear hgv
      go_wp2_with fail
      go_ret
      obtain ⟨q1, q2⟩ := H.out.putNow HX1.out (show OwnS rBo 4 wo w.heap.size (fun _ => False) (.slice a1 now.length n1) cur from HO1.out) HCL.out
      exact .inl ⟨cur, HG.out, rfl, q1, q2⟩
end Go.Proofs.Ytbpcgfplokkfpaa
