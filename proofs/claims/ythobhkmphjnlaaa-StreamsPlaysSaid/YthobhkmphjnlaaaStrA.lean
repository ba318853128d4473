/- streams: New, named, right, own, owned and what they call, walked. -/
import Derived.Test.YthobhkmphjnlaaaOwE
import Derived.Test.YthobhkmphjnlaaaCheck
import Derived.StillTailTactics
namespace Go.Proofs.Ythobhkmphjnlaaa
open Go.RowKit
set_option linter.unusedVariables false
set_option linter.unusedSimpArgs false

theorem rF_free {w w' : World} {S S' : Nat → Prop} {cs : List Value} {f : Fld} (h : rF.rd w S cs f) : rF.rd w' S' cs f := by
  obtain ⟨rfl, h1, h2, h3⟩ := rF_cells h
  exact ⟨[_], _, rfl, ⟨rfl, h1⟩, [_], _, rfl, rfl, [_], _, rfl, ⟨rfl, h2⟩, ⟨rfl, h3⟩⟩
theorem RdS.src {α : Type} {r : Rdr α} {w : World} {S : Nat → Prop} {v : Value} {xs : List α} {tx t : TypeId} (hu : Try.prog.underlying tx = some (.slice t)) (h : RdS r w S v xs) : ∃ gs : List (List Value × α), xs = gs.map (·.2) ∧ Src Try.prog r.size tx v gs.length (cellsOf gs) w ∧ ∀ p ∈ gs, r.rd w S p.1 p.2 := by
  obtain ⟨v', gs, e, rfl, h1, h2, h3⟩ := h
  obtain rfl := List.singleton_inj.1 e
  refine ⟨gs, rfl, src_rd hu h1 (fun u hu => ?_), h3⟩
  obtain ⟨p, hp, hu⟩ := List.mem_flatMap.1 hu
  exact r.one (h3 p hp) u hu
theorem OwnS.made {α : Type} (r : Rdr α) (t : TypeId) (w : World) (S : Nat → Prop) (hS : ¬ S w.heap.size) : OwnS r t (w.alloc (.cells #[] t)) w.heap.size S (.slice (some ⟨w.heap.size, 0, none⟩) 0 0) [] :=
  ⟨[], rfl, World.ownsRow_made w #[] 0 (Nat.le_refl _) (by simp [maxLen]) (by simp), fun k hk => by simp only [Value.ownBlock, Option.map_some, Option.some.injEq] at hk; subst hk; exact hS, by simp⟩

set_option maxRecDepth 100000 in
set_option maxHeartbeats 400000 in
theorem CloneF_any (w : World) (S : Nat → Prop) (v : Value) (fs : List Fld) (h : RdS rF w S v fs) (hl : fs.length ≤ 1000000) :
    Calls Try.prog 84 #[v] w fun e w' => ∃ v', e = .returned v' ∧ OwnS rF 108 w' w.heap.size (fun _ => False) v' fs ∧ Ext w w' := by
  have hnil := fun w => Lib.run_eql_slice_nil (P := Try.prog) w
  obtain ⟨a, cap, rfl, hc1, hc2⟩ := h.slice
  have H := hid h
  cases a with
  | none =>
    have h0 : fs = [] := by
      cases fs with
      | nil => rfl
      | cons f fs => obtain ⟨g, o, cap', cs, e, _⟩ := h.at 0 (by simp); simp at e
    subst h0
    clear h
    go_enter Try.func84, Try.ntmps84
    go_wp2_with fail
    go_ret
    exact ⟨_, rfl, OwnS.nil _ _ _ _ _, Ext.refl _⟩
  | some a =>
    obtain ⟨gs, hgs, hsrc, hall⟩ := (h.ext ((Ext.refl w).alloc (.cells #[] 108))).src Try.underlying44
    have HG := hid hgs
    have hgl : gs.length = fs.length := by rw [hgs, List.length_map]
    have HSRC := hid hsrc
    have HALL := hid hall
    have HGL := hid hgl
    have HA := OwnS.made rF 108 w (fun _ => False) (fun h => h)
    clear h hgs hsrc hall hgl
    go_enter Try.func84, Try.ntmps84
    go_wp2_with (at_builtin; go_must (refine wl_appS rF rfl _ _ _ _ _ _ 48 rfl Try.underlying44 infoFld rfl w.heap.size _ _ [] rfl HA _ gs rfl HSRC.out (fun p hp => rF_free (HALL.out p hp)) (fun _ h => h.elim) (by rw [HGL.out]; simp; omega) (by rw [HGL.out]; simp; omega) (by simp) ?_; intro v' w' k1 k2 k3; rw [List.nil_append, ← HG.out] at k1))
    go_ret
    exact ⟨_, rfl, k1, ((Ext.refl w).alloc _).grown k2 (fun k hk => by cases hk; exact Nat.le_refl _)⟩

theorem three_cells {w : World} {g : Nat} {a b c v0 v1 v2 : Value} {t : TypeId} (h : w.heap[g]? = some (.cells #[a, b, c] t (0, 0))) :
    ((((w.setCell ⟨g, 0, none⟩ v0).setCell ⟨g, 1, none⟩ v1).setCell ⟨g, 2, none⟩ v2).cell? ⟨g, 0, none⟩ = some v0) ∧
    ((((w.setCell ⟨g, 0, none⟩ v0).setCell ⟨g, 1, none⟩ v1).setCell ⟨g, 2, none⟩ v2).cell? ⟨g, 1, none⟩ = some v1) ∧
    ((((w.setCell ⟨g, 0, none⟩ v0).setCell ⟨g, 1, none⟩ v1).setCell ⟨g, 2, none⟩ v2).cell? ⟨g, 2, none⟩ = some v2) := by
  have hr := set_blk (o := 2) (set_blk (o := 1) (set_blk (o := 0) h v0) v1) v2
  exact ⟨(cell_of_row _ _ _ _ _ _ hr).trans rfl, (cell_of_row _ _ _ _ _ _ hr).trans rfl, (cell_of_row _ _ _ _ _ _ hr).trans rfl⟩
theorem keep_three {S : Nat → Prop} {a w : World} {g : Nat} {v0 v1 v2 : Value} (h : Keep S a w) (hg : ¬ S g) : Keep S a (((w.setCell ⟨g, 0, none⟩ v0).setCell ⟨g, 1, none⟩ v1).setCell ⟨g, 2, none⟩ v2) :=
  ((h.setCell hg _).setCell hg _).setCell hg _

set_option maxRecDepth 100000 in
set_option maxHeartbeats 400000 in
theorem own_any (w : World) (S : Nat → Prop) (t : ByteArray) (n : Int) (fv : Value) (fs : List Fld) (hf : RdS rF w S fv fs) (hl : fs.length ≤ 1000000) :
    Calls Try.prog 45 #[.agg #[.string t, .int .i64 n, fv]] w fun e w' => ∃ fv', e = .returned (.agg #[.string t, .int .i64 n, fv']) ∧ RdSO rF 108 w' (fun k => w.heap.size ≤ k) fv' fs ∧ Ext w w' := by
  obtain ⟨fa, fc, rfl, hfc1, hfc2⟩ := hf.slice
  have HF := hid hf
  clear hf
  go_enter Try.func45, Try.ntmps45
  go_wp2_with fail
  obtain ⟨wz, hwz⟩ : ∃ wz, wz = w.alloc (.cells #[.string t, .int .i64 n, .slice fa fs.length fc] 46) := ⟨_, rfl⟩
  obtain ⟨wa, hwa⟩ : ∃ wa, wa = wz.alloc (.cells #[.string ⟨#[]⟩, .int .i64 0, .slice none 0 0] 46) := ⟨_, rfl⟩
  have hz1 : wz.heap.size = w.heap.size + 1 := by rw [hwz]; simp
  have ha1 : wa.heap.size = w.heap.size + 2 := by rw [hwa]; simp [hz1]
  have hxz : Ext w wz := by rw [hwz]; exact (Ext.refl w).alloc _
  have hxa : Ext wz wa := by rw [hwa]; exact (Ext.refl wz).alloc _
  have hrz : wa.heap[w.heap.size]? = some (.cells #[.string t, .int .i64 n, .slice fa fs.length fc] 46 (0, 0)) := (Below.block hxa _ (by omega)).trans (by rw [hwz]; exact heap_alloc_new _ _)
  have hra : wa.heap[w.heap.size + 1]? = some (.cells #[.string ⟨#[]⟩, .int .i64 0, .slice none 0 0] 46 (0, 0)) := by rw [hwa, ← hz1]; exact heap_alloc_new _ _
  rw [← hwz, ← hwa]
  refine (CloneF_any wa S _ fs (HF.out.ext (hxz.trans hxa)) hl).mono ?_
  rintro e w1 ⟨v1, rfl, ho1, hx1⟩
  have hrz1 := (Below.block hx1 w.heap.size (by omega)).trans hrz
  have hra1 := (Below.block hx1 (w.heap.size + 1) (by omega)).trans hra
  have HO := hid ho1.rdO
  have HOL := hid (fun k hk => (ho1.lt k hk).1)
  have HX := hid ((hxz.trans hxa).trans hx1)
  have HS := hid ha1
  obtain ⟨a1, c1, rfl⟩ := ho1.slice
  obtain ⟨g, hg⟩ : ∃ g, g = w.heap.size := ⟨_, rfl⟩
  obtain ⟨g1, hg1⟩ : ∃ g1, g1 = w.heap.size + 1 := ⟨_, rfl⟩
  have hgg : ¬ g = g1 := by omega
  have hgg' : ¬ g1 = g := by omega
  rw [← hg1] at hra1 ⊢
  rw [← hg] at hrz1 ⊢
  have HRZ := hid hrz1
  have HRA := hid hra1
  have x0 : w1.cell? ⟨g, 0, none⟩ = some (.string t) := (cell_of_row _ _ _ _ _ _ hrz1).trans rfl
  have x1 : w1.cell? ⟨g, 1, none⟩ = some (.int .i64 n) := (cell_of_row _ _ _ _ _ _ hrz1).trans rfl
  have x2 : w1.cell? ⟨g, 2, none⟩ = some (.slice fa fs.length fc) := (cell_of_row _ _ _ _ _ _ hrz1).trans rfl
  have y0 := frozen_blk hrz1 2
  have y1 := frozen_blk hra1 0
  have y2 := frozen_blk hra1 1
  have y3 := frozen_blk hra1 2
  have z0 : w1.cell? ⟨g1, 0, none⟩ = some (.string ⟨#[]⟩) := (cell_of_row _ _ _ _ _ _ hra1).trans rfl
  have z1 : w1.cell? ⟨g1, 1, none⟩ = some (.int .i64 0) := (cell_of_row _ _ _ _ _ _ hra1).trans rfl
  have z2 : w1.cell? ⟨g1, 2, none⟩ = some (.slice none 0 0) := (cell_of_row _ _ _ _ _ _ hra1).trans rfl
  have HG := hid (show g = w.heap.size ∧ g1 = w.heap.size + 1 from ⟨hg, hg1⟩)
  clear hwz hwa hz1 ha1 hxz hxa hrz hra hrz1 hra1 hx1 ho1 hg hg1
  have HE := hid (show (w1.setCell ⟨g, 2, none⟩ (.slice a1 fs.length c1)).heap[g1]? = some (.cells #[.string ⟨#[]⟩, .int .i64 0, .slice none 0 0] 46 (0, 0)) from ((Keep.setCell (S := fun k => k ≠ g) (Keep.refl _ w1) (by simp) _).block g1 hgg' (Array.getElem?_eq_some_iff.1 HRA.out).1).trans HRA.out)
  go_wp2_with fail
  obtain ⟨q0, q1, q2⟩ := three_cells (v0 := .string t) (v1 := .int .i64 n) (v2 := .slice a1 fs.length c1) HE.out
  refine bodyPost_ret (v := .agg #[.string t, .int .i64 n, .slice a1 fs.length c1]) (by simp [results, Try.results45, go_sem, q0, q1, q2]) rfl ⟨_, rfl, ?_, ?_⟩
  · refine (HO.out.kept (keep_three ((Keep.refl _ w1).setCell ?_ _) ?_)).mono (fun k hk _ => ?_)
    · intro h
      rcases h with h | h
      · exact h
      · have : _ ≤ g := HOL.out _ h
        have := HG.out; have := HS.out; omega
    · intro h
      rcases h with h | h
      · exact h
      · have : _ ≤ g1 := HOL.out _ h
        have := HG.out; have := HS.out; omega
    · rcases hk with h | h
      · exact h.elim
      · have := HOL.out _ h; have := HG.out; have := HS.out; omega
  · have e1 : w.heap.size ≤ g := by have := HG.out; omega
    have e2 : w.heap.size ≤ g1 := by have := HG.out; omega
    exact (((HX.out.setCell (p := ⟨g, 2, none⟩) e1 _).setCell (p := ⟨g1, 0, none⟩) e2 _).setCell (p := ⟨g1, 1, none⟩) e2 _).setCell (p := ⟨g1, 2, none⟩) e2 _

set_option maxRecDepth 100000 in
set_option maxHeartbeats 400000 in
theorem snamed_any (w : World) (s k : ByteArray) (hs : s.size ≤ 9223372036854775807) (hk : k.size ≤ 9223372036854775807) :
    Calls Try.prog 42 #[.string s, .string k] w fun e w' => e = .returned (.bool (namedF s k)) ∧ w = w' := by
  by_cases h : s.size = 0
  · have h1 := str_nil h
    have HN := hid (show namedF s k = false by unfold namedF nameOk; rw [Bool.and_eq_false_iff]; left; rw [decide_eq_false]; omega)
    clear h
    go_enter Try.func42, Try.ntmps42
    go_wp2_with fail
    go_ret
    exact ⟨by rw [HN.out]; rfl, rfl⟩
  · have h1 := str_ne h
    have h2 := str_ne' h
    have HN := hid (show namedF s k = (decide ((s.size : Int) ≤ 60) && decide ((k.size : Int) ≤ 60)) by unfold namedF nameOk; rw [Bool.eq_iff_iff]; simp; omega)
    clear h
    by_cases h3 : (s.size : Int) ≤ 60
    all_goals
      go_enter Try.func42, Try.ntmps42
      go_wp2_with fail
      go_ret
      exact ⟨ret_bool (by rw [HN.out]; first | (simp [h3]; done) | (rw [Bool.eq_iff_iff]; simp; omega)), rfl⟩

set_option maxRecDepth 100000 in
set_option maxHeartbeats 400000 in
theorem New_any (w : World) : Calls Try.prog 19 #[] w fun e w' => ∃ g, e = .returned (.pointer (some ⟨g, 0, none⟩)) ∧ (∃ ρ, IxAt w' g ρ 0 0 ix0 ∧ (∀ k, ρ k ≠ none → w.heap.size ≤ k)) ∧ Ext w w' := by
  have hmm := @run_makeMap Try.prog
  go_enter Try.func19, Try.ntmps19
  go_wp2_with fail
  obtain ⟨wa, hwa⟩ : ∃ wa, wa = w.alloc (.map #[] 0) := ⟨_, rfl⟩
  obtain ⟨wb, hwb⟩ : ∃ wb, wb = wa.alloc (.map #[] 0) := ⟨_, rfl⟩
  obtain ⟨wc, hwc⟩ : ∃ wc, wc = wb.alloc (.cells #[.slice none 0 0, .map (some w.heap.size), .map (some (w.heap.size + 1))] 85) := ⟨_, rfl⟩
  have sa : wa.heap.size = w.heap.size + 1 := by rw [hwa]; simp
  have sb : wb.heap.size = w.heap.size + 2 := by rw [hwb]; simp [sa]
  have sc : wc.heap.size = w.heap.size + 3 := by rw [hwc]; simp [sb]
  have xa : Ext w wa := by rw [hwa]; exact (Ext.refl w).alloc _
  have xb : Ext wa wb := by rw [hwb]; exact (Ext.refl wa).alloc _
  have xc : Ext wb wc := by rw [hwc]; exact (Ext.refl wb).alloc _
  have ma : MapG kStr wc w.heap.size 0 (fun _ => none) := ((show MapG kStr wa w.heap.size 0 (fun _ => none) by rw [hwa]; exact MapG.made kStr w).ext xb).ext xc
  have mb : MapG kStr wc (w.heap.size + 1) 0 (fun _ => none) := (show MapG kStr wb (w.heap.size + 1) 0 (fun _ => none) by rw [hwb, ← sa]; exact MapG.made kStr wa).ext xc
  have hr : wc.heap[w.heap.size + 2]? = some (.cells #[.slice none 0 0, .map (some w.heap.size), .map (some (w.heap.size + 1))] 85 (0, 0)) := by rw [hwc, ← sb]; exact heap_alloc_new _ _
  rw [← hwa, ← hwb, ← hwc]
  clear hwa hwb hwc
  go_ret
  refine ⟨w.heap.size + 2, rfl, ⟨fun k => if k = w.heap.size then some .smap else if k = w.heap.size + 1 then some .kmap else if k = w.heap.size + 2 then some .idx else none, ⟨.slice none 0 0, w.heap.size, w.heap.size + 1, fun _ => none, fun _ => none, ?_⟩, fun k hk => ?_⟩, (xa.trans xb).trans xc⟩
  · exact {
      head := hr
      rg := by simp
      all := OwnS.nil _ _ _ _ _
      rall := fun k hk => by simp [Value.ownBlock] at hk
      str := ma
      rs := by simp
      strs := fun s hs => OwnS.nil _ _ _ _ _
      rstr := fun s hs k hk => by simp [nilS, Value.ownBlock] at hk
      has := fun s hs => by simp [ix0]
      key := mb
      rk := by simp
      keys := fun s hs => rfl
      lt := fun k hk => by
        try simp only at hk
        split at hk
        · omega
        · split at hk
          · omega
          · split at hk
            · omega
            · exact absurd rfl hk }
  · try simp only at hk
    split at hk
    · omega
    · split at hk
      · omega
      · split at hk
        · omega
        · exact absurd rfl hk

theorem infoEvt2 : (Try.prog.info? 46).map (fun i => (i.zero, i.size, i.bytes)) = some (some (.agg #[.string ⟨#[]⟩, .int .i64 0, .slice none 0 0]), 3, 48) := infoEvt

set_option maxRecDepth 100000 in
set_option maxHeartbeats 1000000 in
theorem right_any (w : World) (S : Nat → Prop) (lv : Value) (l : List Ev) (hl : RdS rE w S lv l) (hle : l.length ≤ 9223372036854775807) :
    Calls Try.prog 43 #[lv] w fun e w' => e = .returned (.bool (rightF l)) ∧ Ext w w' := by
  obtain ⟨la, lc, rfl, -, -⟩ := hl.slice
  have HL := hid hl
  clear hl
  go_enter Try.func43, Try.ntmps43
  go_wp2_with fail
  go_loopw [7] (fun u7 wr => ∃ i : Nat, u7 = .int .i64 i ∧ i ≤ l.length ∧ (∀ j (hj : j < l.length), j < i → evOk l[j] = true) ∧ Ext w wr) (fun u7 _ => l.length - (intOf u7).toNat)
  case atStart => exact ⟨0, rfl, Nat.zero_le _, fun j hj h => by omega, Ext.refl _⟩
  case round =>
    obtain ⟨wo, rfl⟩ : ∃ wo : World, wo = wr := ⟨_, rfl⟩
    obtain ⟨i, rfl, hi, hok, hx⟩ := hrel
    have HOK := hid hok
    have HX := hid hx
    clear hok
    by_cases hlt : i < l.length
    · obtain ⟨g, o, cap, fv, e, hg, -, d0, d1, d2, h1, h2, h3⟩ := (HL.out.ext hx).atE i hlt
      simp only [Value.slice.injEq] at e
      obtain ⟨rfl, -, rfl⟩ := e
      obtain ⟨fa, fc, rfl, -, -⟩ := h3.slice
      generalize hev : l[i] = ev at d0 d1 d2 h1 h2 h3
      have HEV := hid hev
      obtain ⟨t, n, fs⟩ := ev
      dsimp only at d0 d1 d2 h1 h2 h3
      have H3 := hid h3
      clear hev h3 hx
      by_cases hev : evOk (t, n, fs) = true
      · have HC := hid (show checkF (t, n, fs) = 0 by unfold checkF; rw [if_pos hev])
        have HV := hid hev
        clear hev
        go_wp2_with (go_at_call 23; go_must (refine (Check_any _ S t n _ fs h1 h2 (H3.out.ext (by (· repeat (first | (with_reducible assumption) | exact Ext.refl _ | refine Ext.alloc ?_ _ | refine Ext.drew ?_ | refine Ext.drewN ?_ _ | (apply Ext.snart; (with_reducible assumption))))))).mono ?_; rw [HC.out]; rintro e w1 ⟨rfl, hb1⟩; have hx1 := Ext.of hb1; clear hb1))
        go_roundw
        case rel => exact ⟨i + 1, by go_num, by omega, fun j hj h => by
          by_cases hji : j < i
          · exact HOK.out j hj hji
          · obtain rfl : j = i := by omega
            rw [HEV.out]; exact HV.out, HX.out.trans (show Ext wo _ by (· repeat (first | (with_reducible assumption) | exact Ext.refl _ | refine Ext.alloc ?_ _ | refine Ext.drew ?_ | refine Ext.drewN ?_ _ | (apply Ext.snart; (with_reducible assumption)))))⟩
        case measure => simp [intOf]; omega
      · have HC := hid (show checkF (t, n, fs) = 13 by unfold checkF; rw [if_neg hev])
        have HR := hid (show rightF l = false by
          unfold rightF
          rw [Bool.and_eq_false_iff]; left
          rw [List.all_eq_false]
          exact ⟨l[i], List.getElem_mem hlt, by rw [HEV.out]; exact hev⟩)
        clear hev
        go_wp2_with (go_at_call 23; go_must (refine (Check_any _ S t n _ fs h1 h2 (H3.out.ext (by (· repeat (first | (with_reducible assumption) | exact Ext.refl _ | refine Ext.alloc ?_ _ | refine Ext.drew ?_ | refine Ext.drewN ?_ _ | (apply Ext.snart; (with_reducible assumption))))))).mono ?_; rw [HC.out]; rintro e w1 ⟨rfl, hb1⟩; have hx1 := Ext.of hb1; clear hb1))
        go_ret
        exact ⟨ret_bool (by rw [HR.out]), HX.out.trans (show Ext wo _ by (· repeat (first | (with_reducible assumption) | exact Ext.refl _ | refine Ext.alloc ?_ _ | refine Ext.drew ?_ | refine Ext.drewN ?_ _ | (apply Ext.snart; (with_reducible assumption)))))⟩
    · have HR := hid (show rightF l = (decide (0 < (l.length : Int)) && decide ((l.length : Int) ≤ 16)) by
        unfold rightF
        rw [List.all_eq_true.2 (fun e he => by obtain ⟨j, hj, rfl⟩ := List.getElem_of_mem he; exact HOK.out j hj (by omega)), Bool.true_and, Bool.eq_iff_iff]
        simp; omega)
      clear hx HOK
      have hil : ¬ i < l.length := hlt
      by_cases h0 : 0 < l.length
      all_goals
        go_wp2_with fail
        go_ret
        exact ⟨ret_bool (by rw [HR.out]; first | (rw [Bool.eq_iff_iff]; simp; omega) | (rw [Bool.eq_iff_iff]; simp [h0]) | simp), HX.out⟩
end Go.Proofs.Ythobhkmphjnlaaa
