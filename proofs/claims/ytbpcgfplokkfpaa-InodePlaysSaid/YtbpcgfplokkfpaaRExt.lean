/- The document's Extend, walked. -/
import Derived.Test.YtbpcgfplokkfpaaRNode
namespace Go.Proofs.Ytbpcgfplokkfpaa
open Go.RowKit
set_option linter.unusedVariables false
set_option linter.unusedSimpArgs false

theorem keep_then_below {S : Nat → Prop} {a b c : World} {B : Nat} (h : Keep S a b) (k : Below B b c) (hB : ∀ x, S x → x < a.heap.size → x < B) : Keep S a c :=
  ⟨k.os.trans h.os, k.tape.trans h.tape, k.output.trans h.output, Nat.le_trans h.size k.size, fun x hx hl => (k.block x (hB x hx hl)).trans (h.block x hx hl)⟩
theorem OwnI.lt {w : World} {base : Nat} {v : Value} {l : List Int} (h : OwnI w base v l) : ∀ k, v.ownBlock = some k → base ≤ k ∧ k < w.heap.size := fun k hk => World.ownsRow.lt h k hk
theorem frozen_row {w : World} {g : Nat} {c : Array Value} {t : TypeId} (h : w.heap[g]? = some (.cells c t (0, 0))) (o : Nat) : w.frozen? ⟨g, o, none⟩ = false := by simp [World.frozen?, h]
theorem own_madeI (w : World) : OwnI (w.alloc (.cells #[] 3)) w.heap.size (.slice (some ⟨w.heap.size, 0, none⟩) 0 0) [] := World.ownsRow_made w #[] 0 (Nat.le_refl _) (by simp [maxLen]) rfl

set_option maxRecDepth 100000 in
set_option maxHeartbeats 4000000 in
theorem rExtend_any (w : World) (g : Nat) (q : Option Nat) (s n : Int) (L : List Int) (h : RNodeAt w g q s L) (ho : NodeOk s L) (hn : -9223372036854775808 ≤ n ∧ n ≤ 9223372036854775807) (lv : Value) (ls : List Run) (hl : RdR w lv ls) (hls : ∀ r ∈ ls, RunOk r) :
    Calls Try.prog 69 #[.pointer (some ⟨g, 0, none⟩), .int .i64 n, lv] w (RExtEnd w g q s n L ls) := by
  have H := hid h
  have HO := hid ho
  have hs1 := ho.lo
  have hs2 := ho.hi
  have hl64 := ho.len64
  have HL := hid hl
  obtain ⟨la, lc, rfl, hlc1, hlc2⟩ := hl.slice
  obtain ⟨nd, er, hne, hnd⟩ : ∃ nd er, needF s n = (nd, er) ∧ ((er = 1 ∧ nd = 0) ∨ (er = 60 ∧ nd = 0) ∨ (er = 0 ∧ 0 ≤ nd ∧ nd ≤ 64 ∧ 0 ≤ n ∧ n ≤ 32768)) := by
    unfold needF
    by_cases h1 : n < 0
    · rw [if_pos h1]; exact ⟨0, 1, rfl, .inl ⟨rfl, rfl⟩⟩
    rw [if_neg h1]
    by_cases h2 : 32768 - s < n
    · rw [if_pos h2]; exact ⟨0, 60, rfl, .inr (.inl ⟨rfl, rfl⟩)⟩
    · rw [if_neg h2]
      have b1 := nb_lo hs1
      have b2 := nb_mono (show s ≤ s + n by omega)
      have b3 := nb_hi (show s + n ≤ 32768 by omega)
      exact ⟨_, _, rfl, .inr (.inr ⟨rfl, by omega, by omega, by omega, by omega⟩)⟩
  have HNE := hid hne
  clear hne h ho hl
  rcases hnd with ⟨rfl, rfl⟩ | ⟨rfl, rfl⟩ | ⟨rfl, hn0, hn64, n3, n4⟩
  iterate 2
    · go_enter Try.func69, Try.ntmps69
      go_wp2_with (go_at_call 68; refine (rNeed_any w g q s n L H.out ⟨hs1, hs2⟩ hn).mono ?_; rw [HNE.out]; rintro e w1 ⟨rfl, hb1⟩; have hx1 := Ext.of hb1; clear hb1)
      go_ret
      exact RExtEnd.bad (by rw [extF_bad (by rw [HNE.out]; decide), HNE.out]) (by decide) H.out hx1
  · obtain ⟨k, rfl⟩ := Int.eq_ofNat_of_zero_le hn0
    have HE2 := hid (extF_go (s := s) (n := n) (ls := ls) (by rw [HNE.out]))
    have HE3 := hid (fun r hr hb => ext_bad_run (s := s) (n := n) (ls := ls) (r := r) (by rw [HNE.out]) hr hb)
    rw [HNE.out] at HE2
    dsimp only at HE2
    go_enter Try.func69, Try.ntmps69
    go_wp2_with (go_at_call 68; refine (rNeed_any w g q s n L H.out ⟨hs1, hs2⟩ hn).mono ?_; rw [HNE.out]; rintro e w1 ⟨rfl, hb1⟩; have hx1 := Ext.of hb1; clear hb1)
    go_loopw [9, 10] (fun u9 u10 wr => ∃ i : Nat, ∃ M : List Int, i ≤ ls.length ∧ u10 = .int .i64 i ∧ M = (expand (ls.take i)).take (k + 1) ∧ OwnI wr w.heap.size u9 M ∧ (∀ r ∈ ls.take i, 0 ≤ r.1 ∧ 1 ≤ r.2 ∧ r.1 + r.2 ≤ 512) ∧ Ext w wr) (fun _ i _ => ls.length - (intOf i).toNat)
    case atStart => exact ⟨0, [], by omega, rfl, by simp [expand], OwnI.nil _ _, by simp, hx1⟩
    case round =>
      clear hx1
      obtain ⟨wo, rfl⟩ : ∃ wo : World, wo = wr := ⟨_, rfl⟩
      obtain ⟨i, M, hi, rfl, hM, hown, hin, hx⟩ := hrel
      have HM := hid hM
      have HOWN := hid hown
      have HIN := hid hin
      have HX := hid hx
      have hsz := hx.size
      have hMl : M.length ≤ k + 1 := by rw [hM, List.length_take]; omega
      obtain ⟨a9, c9, rfl, -⟩ := hown.rd.slice
      clear hM hown hin
      by_cases hlt : i < ls.length
      · obtain ⟨gl, ol, cl, e, hgl, c0, c1⟩ := (HL.out.ext hx).at i hlt
        simp only [Value.slice.injEq] at e
        obtain ⟨rfl, -, rfl⟩ := e
        have hro := hls _ (List.getElem_mem hlt)
        have HE4 := hid (HE3.out _ (List.getElem_mem hlt))
        have HEX := hid (expand_take_succ ls i hlt)
        have HTK := hid (List.take_succ_eq_append_getElem hlt)
        clear hx
        generalize ls[i] = r at c0 c1 hro HEX HE4 HTK
        obtain ⟨rf, rl⟩ := r
        obtain ⟨⟨ro1, ro2⟩, ro3, ro4⟩ := hro
        dsimp only at c0 c1 ro1 ro2 ro3 ro4 HE4
        by_cases hv : 0 ≤ rf ∧ 1 ≤ rl ∧ rf + rl ≤ 512
        · obtain ⟨hv1, hv2, hv3⟩ := hv
          obtain ⟨f, rfl⟩ := Int.eq_ofNat_of_zero_le hv1
          obtain ⟨m, rfl⟩ := Int.eq_ofNat_of_zero_le (show 0 ≤ rl by omega)
          have hm1 : 1 ≤ m := by omega
          have hm2 : f + m ≤ 512 := by omega
          have e1 : IntKind.i64.wrap ((f : Int) + (m : Int)) = (f : Int) + (m : Int) := IntWalk.i64_in _ (by omega)
          clear hv1 hv2 hv3
          go_wp2_with fail
          have hxa : Ext wo (wo.alloc (.cells #[.int .i64 (f : Int), .int .i64 (m : Int)] 43)) := (Ext.refl _).alloc _
          have k0 : (wo.alloc (.cells #[.int .i64 (f : Int), .int .i64 (m : Int)] 43)).cell? ⟨wo.heap.size, 0, none⟩ = some (.int .i64 (f : Int)) := by simp [go_sem]
          have k1 : (wo.alloc (.cells #[.int .i64 (f : Int), .int .i64 (m : Int)] 43)).cell? ⟨wo.heap.size, 1, none⟩ = some (.int .i64 (m : Int)) := by simp [go_sem]
          have HOA := hid (HOWN.out.ext hxa)
          have HAL := hid (fun b hb => (HOWN.out.lt b hb).2)
          have hsa : (wo.alloc (.cells #[.int .i64 (f : Int), .int .i64 (m : Int)] 43)).heap.size = wo.heap.size + 1 := by simp
          have HXA := hid (HX.out.trans hxa)
          clear hxa
          go_loopw [9, 12] (fun u9 u12 wi => ∃ j : Nat, ∃ M' : List Int, j ≤ m ∧ u12 = .int .i64 j ∧ M' = (expand (ls.take i) ++ expand [((f : Int), (j : Int))]).take (k + 1) ∧ OwnI wi w.heap.size u9 M' ∧ wi.cell? ⟨wo.heap.size, 0, none⟩ = some (.int .i64 (f : Int)) ∧ wi.cell? ⟨wo.heap.size, 1, none⟩ = some (.int .i64 (m : Int)) ∧ wo.heap.size + 1 ≤ wi.heap.size ∧ (∀ b, u9.ownBlock = some b → b ≠ wo.heap.size) ∧ Ext w wi) (fun _ j _ => m - (intOf j).toNat)
          case atStart => exact ⟨0, M, by omega, rfl, by rw [HM.out]; simp [expand], HOA.out, k0, k1, by omega, fun b hb => by have := HAL.out b hb; omega, HXA.out⟩
          case round =>
            clear k0 k1
            obtain ⟨j, M', hj, rfl, hM', hown', k0, k1, hszi, hnb, hxi⟩ := hrel
            have HM' := hid hM'
            have HOI := hid hown'
            have HNB := hid hnb
            have hMl' : M'.length ≤ k + 1 := by rw [hM', List.length_take]; omega
            have hML2 : M'.length = min (k + 1) ((expand (ls.take i)).length + j) := by rw [hM', List.length_take, List.length_append, expand_one_len]; simp
            have hpre : k < M'.length → M' = (expand (ls.take i) ++ expand [((f : Int), (m : Int))]).take (k + 1) := by
              intro hk
              rw [hM', expand_split (f : Int) j m hj, ← List.append_assoc]
              refine (List.take_append_of_le_length ?_).symm
              rw [List.length_append, expand_one_len]
              have e : ((j : Nat) : Int).toNat = j := by simp
              rw [e]; omega
            have HPRE := hid hpre
            have HML2 := hid hML2
            have hM3 : j < m → M'.length ≤ k → M' ++ [(f : Int) + (j : Int)] = (expand (ls.take i) ++ expand [((f : Int), ((j + 1 : Nat) : Int))]).take (k + 1) := by
              intro _ hk
              rw [expand_one_succ, ← List.append_assoc, take_grow _ _ _ (by rw [List.length_append, expand_one_len]; have e : ((j : Nat) : Int).toNat = j := by simp
                                                                            rw [e]; omega), hM']
            have HM3 := hid hM3
            obtain ⟨b9, d9, rfl, -⟩ := hown'.rd.slice
            clear hM' hown' hnb hpre hML2 hM3
            have hex : (j < m ∧ M'.length ≤ k) ∨ (j < m ∧ k < M'.length) ∨ j = m := by omega
            rcases hex with ⟨h1, h2⟩ | ⟨h1, h2⟩ | rfl
            · have hfj : IntKind.i64.wrap ((f : Int) + (j : Int)) = (f : Int) + (j : Int) := IntWalk.i64_in _ (by omega)
              have HSI := hid (src_int wr wr.heap.size ((f : Int) + (j : Int)) rfl)
              go_wp2_with (at_builtin; go_must (refine wl_appI rfl _ _ _ rfl w.heap.size _ _ rfl (HOI.out.ext ((Ext.refl wr).alloc (.cells #[.int .i64 ((f : Int) + (j : Int))] 3))) _ [(f : Int) + (j : Int)] rfl HSI.out (by simp only [List.length_singleton]; omega) (by have := hxi.size; simp; omega) ?_; intro v9 w9 l1 l4 l5 l6))
              go_roundw
              case rel =>
                have hk4 := keep_grown l4
                have hxa := (Ext.refl wr).alloc (.cells #[.int .i64 ((f : Int) + (j : Int))] 3)
                refine ⟨j + 1, _, by omega, by go_num, HM3.out h1 h2, l1, hk4.cell (hxa.cellS k0) (fun e => HNB.out _ e.symm rfl), hk4.cell (hxa.cellS k1) (fun e => HNB.out _ e.symm rfl), by have := l4.size; simp at this; omega, fun b hb => ?_, (hxi.alloc _).grown l4 (fun b hb => (HOI.out.lt b hb).1)⟩
                rcases l6 b hb with h | h
                · exact HNB.out b h
                · have h' : wr.heap.size + 1 ≤ b := by simpa using h
                  omega
              case measure => simp [intOf]; omega
            · go_wp2_with fail
              go_roundw
              case rel =>
                refine ⟨i + 1, M', by omega, by go_num, by rw [HEX.out]; exact HPRE.out h2, HOI.out, fun r hr => ?_, hxi⟩
                rw [HTK.out] at hr
                rcases List.mem_append.1 hr with hr | hr
                · exact HIN.out r hr
                · obtain rfl := List.mem_singleton.1 hr
                  dsimp only; omega
              case measure => simp [intOf]; omega
            · go_wp2_with fail
              go_roundw
              case rel =>
                refine ⟨i + 1, M', by omega, by go_num, by rw [HEX.out]; exact HM'.out, HOI.out, fun r hr => ?_, hxi⟩
                rw [HTK.out] at hr
                rcases List.mem_append.1 hr with hr | hr
                · exact HIN.out r hr
                · obtain rfl := List.mem_singleton.1 hr
                  dsimp only; omega
              case measure => simp [intOf]; omega
        · have HF := hid (HE4.out hv)
          have hb5 : rl < 1 ∨ (1 ≤ rl ∧ 512 < rl) ∨ (1 ≤ rl ∧ rl ≤ 512 ∧ rf < 0) ∨ (1 ≤ rl ∧ rl ≤ 512 ∧ 0 ≤ rf ∧ 511 < rf) ∨ (1 ≤ rl ∧ rl ≤ 512 ∧ 0 ≤ rf ∧ rf ≤ 511 ∧ 512 < rf + rl ∧ IntKind.i64.wrap (rf + rl) = rf + rl) := by
            by_cases h1 : 1 ≤ rl ∧ rl ≤ 512 ∧ 0 ≤ rf ∧ rf ≤ 511
            · have e1 : IntKind.i64.wrap (rf + rl) = rf + rl := IntWalk.i64_in _ (by omega)
              omega
            · omega
          clear hv HE4
          rcases hb5 with h1 | ⟨h1, h2⟩ | ⟨h1, h2, h3⟩ | ⟨h1, h2, h3, h4⟩ | ⟨h1, h2, h3, h4, h5, h6⟩
          all_goals
            go_wp2_with fail
            go_ret
            exact RExtEnd.bad HF.out (by decide) H.out (HX.out.alloc _)
      · obtain rfl : i = ls.length := by omega
        have HT := hid (show ls.take ls.length = ls from List.take_length)
        rw [HT.out] at HM HIN
        have hlenM : M.length = min (k + 1) (expand ls).length := by rw [HM.out, List.length_take]
        by_cases heq : M.length = k
        · have hee : (expand ls).length = k := by omega
          have HMM := hid (show M = expand ls by rw [HM.out, List.take_of_length_le (by omega)])
          have HF := hid (show extF s n ls = 0 by
            rw [HE2.out, if_pos]
            exact (extOk_iff _ _).2 ⟨HIN.out, by omega⟩)
          obtain ⟨na, nc, d0, d1, hrd, e0, e1, -, -⟩ := (H.out.ext hx).cells
          obtain ⟨vr, hblk, -⟩ := H.out.ext hx
          obtain rfl : vr = .slice na L.length nc := by
            have := d1
            rw [cell_of_row _ _ _ _ _ _ hblk] at this
            simpa using this
          have hgw := H.out.lt
          have hgr : g < wo.heap.size := by omega
          have hgne : ¬ wo.heap.size = g := by omega
          have hgne2 : ¬ g = wo.heap.size := by omega
          have HBLK := hid (set_row (o := 0) hblk (.int .i64 (s + n)))
          have HK2 := hid (show Keep (fun k => k ≠ g) wo (wo.setCell ⟨g, 0, none⟩ (.int .i64 (s + n))) from (Keep.refl _ wo).setCell (by simp) _)
          have HOM := hid (show OwnI ((wo.setCell ⟨g, 0, none⟩ (.int .i64 (s + n))).alloc (.cells #[] 3)) wo.heap.size (.slice (some ⟨wo.heap.size, 0, none⟩) 0 0) [] from by simpa using own_madeI (wo.setCell ⟨g, 0, none⟩ (.int .i64 (s + n))))
          have hq1 : 0 < L.length → ∀ b, (Value.slice na L.length nc).ownBlock = some b → b ≠ g := by
            intro _ b hb
            obtain ⟨vr', hx1, hx2, hx3, hx4, hx5⟩ := H.out.ext hx
            have : some (Value.slice na L.length nc) = some vr' := by rw [← d1, cell_of_row _ _ _ _ _ _ hx1]; rfl
            simp only [Option.some.injEq] at this
            rw [this] at hb
            rintro rfl
            exact hx4 (by rw [← hx3, hb])
          have HRL := hid (show RdI ((wo.setCell ⟨g, 0, none⟩ (.int .i64 (s + n))).alloc (.cells #[] 3)) (.slice na L.length nc) L from (hrd.keep HK2.out hq1).ext ((Ext.refl _).alloc _))
          have hlow := fun b hb => HOWN.out.lt b hb
          have HRM := hid (show RdI ((wo.setCell ⟨g, 0, none⟩ (.int .i64 (s + n))).alloc (.cells #[] 3)) (.slice a9 M.length c9) M from (HOWN.out.rd.keep HK2.out (fun _ b hb => by have := (hlow b hb).1; omega)).ext ((Ext.refl _).alloc _))
          have HLOW := hid hlow
          have hD1 : ((wo.setCell ⟨g, 0, none⟩ (.int .i64 (s + n))).alloc (.cells #[] 3)).cell? ⟨g, 1, none⟩ = some (.slice na L.length nc) := by
            refine ((Ext.refl _).alloc _).cellS ?_
            rw [cell_of_row _ _ _ _ _ _ HBLK.out]
            rfl
          have hM64 : M.length ≤ 64 := by omega
          have e1' : IntKind.i64.wrap (s + n) = s + n := IntWalk.i64_in _ (by omega)
          have hsA : ((wo.setCell ⟨g, 0, none⟩ (.int .i64 (s + n))).alloc (.cells #[] 3)).heap.size = wo.heap.size + 1 := by simp [World.setCell]
          have HSA := hid hsA
          have hba : ((wo.setCell ⟨g, 0, none⟩ (.int .i64 (s + n))).alloc (.cells #[] 3)).heap[g]? = some (.cells (#[.int .i64 s, .slice na L.length nc].setIfInBounds 0 (.int .i64 (s + n))) 71 (0, 0)) := by
            rw [Below.heap_alloc _ _ _ (by simpa [World.setCell] using hgr)]
            exact HBLK.out
          have HBA := hid hba
          clear hba
          have hne' : ((M.length : Int) == (k : Int)) = true := by rw [beq_iff_eq]; omega
          clear hblk hrd hq1 hlow hx heq hlenM hee hsA
          go_wp2_with (first | (have KEY := HO1; at_builtin; go_must (refine wl_appI rfl _ _ _ rfl wo.heap.size _ ([] ++ L) rfl HO1.out _ M rfl (src_I (HRM.out.keep hk5 (fun _ b hb => (HLOW.out b hb).2))) (by simp; omega) (by have := hk5.size; have := HSA.out; omega) ?_; intro v4 w4 m1 m4 m5 m6; clear m4 m6; obtain ⟨a4, q4, rfl⟩ := OwnI.slice m1; obtain ⟨N4, hN4⟩ : ∃ N, N = ([] ++ L ++ M).length := ⟨_, rfl⟩; rw [← hN4] at m1 ⊢; have HN4 := hid hN4; clear hN4; have HO4 := hid m1; have hbk := (m5.block g hgr).trans ((l5.block g hgr).trans HBA.out); have f4 := frozen_row hbk 1; have c4 : w4.cell? ⟨g, 1, none⟩ = some (.slice na L.length nc) := ((cell_of_row _ _ _ _ _ _ hbk).trans rfl); have HBK := hid hbk; clear hbk m1)) | (at_builtin; go_must (refine wl_appI rfl _ _ _ rfl wo.heap.size (.slice (some ⟨wo.heap.size, 0, none⟩) 0 0) [] rfl HOM.out _ L rfl (src_I HRL.out) (by simp; omega) (by have := HSA.out; omega) ?_; intro v3 w3 l1 l4 l5 l6; have HO1 := hid l1; have hk5 := Below.keep l5; clear l1)))
          go_ret
          have hO4 := HO4.out
          have hN4 := HN4.out
          rw [List.nil_append, HMM.out] at hO4 hN4
          subst hN4
          have hlt4 := fun b hb => OwnI.lt hO4 b hb
          have hb4 : Below wo.heap.size (wo.setCell ⟨g, 0, none⟩ (.int .i64 (s + n))) w4 := Below.trans ((Below.refl _ _).alloc (by simp [World.setCell]) _) (Below.trans l5 m5)
          have hks : Keep (fun b => b ≠ g) wo w4 := keep_then_below HK2.out hb4 (fun x _ hl => hl)
          have hkeep : Keep (fun b => b ≠ g) w4 (w4.setCell ⟨g, 1, none⟩ (.slice a4 (L ++ expand ls).length q4)) := (Keep.refl _ w4).setCell (by simp) _
          refine ⟨by rw [HF.out]; rfl, (Value.slice a4 (L ++ expand ls).length q4).ownBlock, ?_, (HX.out.keep _).trans (hks.trans hkeep), .inr (fun b hb => ?_)⟩
          · rw [if_pos HF.out, if_pos HF.out]
            exact ⟨_, by rw [set_row HBK.out _]; rfl, hO4.rd.keep hkeep (fun _ b hb => by have := (hlt4 b hb).1; omega), rfl, fun e => by have := (hlt4 g e).1; omega, fun b hb => by have := (hlt4 b hb).2; have := hkeep.size; omega⟩
          · have := (hlt4 b hb).1
            omega
        · have hne' : ((M.length : Int) == (k : Int)) = false := by rw [beq_eq_false_iff_ne]; omega
          have HF := hid (show extF s n ls = 1 by
            rw [HE2.out, if_neg]
            intro h
            have := ((extOk_iff _ _).1 h).2
            omega)
          clear hlenM heq
          go_wp2_with fail
          go_ret
          exact RExtEnd.bad HF.out (by decide) H.out hx
end Go.Proofs.Ytbpcgfplokkfpaa
