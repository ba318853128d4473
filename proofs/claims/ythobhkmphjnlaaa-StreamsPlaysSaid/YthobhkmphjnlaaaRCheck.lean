/- The reference's Check, walked. -/
import Derived.Test.YthobhkmphjnlaaaCheck
namespace Go.Proofs.Ythobhkmphjnlaaa
open Go.RowKit
set_option linter.unusedVariables false
set_option linter.unusedSimpArgs false

theorem okTo_stop (ok : Bool) (fs : List Fld) (i : Nat) (h : i ≤ fs.length) (hb : okTo ok fs i = false) : okTo ok fs fs.length = false := by
  cases hh : okTo ok fs fs.length
  · rfl
  · obtain ⟨h1, h2⟩ := (okTo_iff ok fs _ (Nat.le_refl _)).1 hh
    have := (okTo_iff ok fs i h).2 ⟨h1, fun k hk hk' => h2 k hk' hk'⟩
    rw [hb] at this
    exact absurd this (by decide)
theorem clash_stop (fs : List Fld) (i : Nat) (n : ByteArray) (j m : Nat) (h : j ≤ m) (hm : m ≤ fs.length) (hb : clash fs i n j = false) : clash fs i n m = false := by
  cases hh : clash fs i n m
  · rfl
  · have h2 := (clash_iff fs i n m hm).1 hh
    have := (clash_iff fs i n j (by omega)).2 fun k hk hk' => h2 k (by omega) hk'
    rw [hb] at this
    exact absurd this (by decide)
theorem str_eqq (a b : ByteArray) : (a.toList == b.toList) = decide (a = b) := by
  rw [ByteArray.toList_eq, ByteArray.toList_eq, Bool.eq_iff_iff]
  simp only [beq_iff_eq, decide_eq_true_eq]
  constructor
  · intro e; exact ByteArray.ext (Array.toList_inj.1 e)
  · rintro rfl; rfl

set_option maxRecDepth 100000 in
set_option maxHeartbeats 400000 in
theorem named_any (w : World) (s : ByteArray) (hs : s.size ≤ 9223372036854775807) : Calls Try.prog 53 #[.string s] w fun e w' => e = .returned (.bool (nameOk s)) ∧ w = w' := by
  have HN := hid (show nameOk s = (decide ((1 : Int) ≤ (s.size : Int)) && decide ((s.size : Int) ≤ 60)) by unfold nameOk; rw [Bool.eq_iff_iff]; simp; omega)
  by_cases h : s.size < 1
  · go_enter Try.func53, Try.ntmps53
    go_wp2_with fail
    go_ret
    exact ⟨ret_bool (by rw [HN.out, decide_eq_false (by omega)]; rfl), rfl⟩
  · go_enter Try.func53, Try.ntmps53
    go_wp2_with fail
    go_ret
    exact ⟨ret_bool (by rw [HN.out, decide_eq_true (show (1 : Int) ≤ (s.size : Int) by omega)]; rfl), rfl⟩

set_option maxRecDepth 100000 in
set_option maxHeartbeats 4000000 in
theorem RCheck_any (w : World) (S : Nat → Prop) (t : ByteArray) (n : Int) (fv : Value) (fs : List Fld) (ht : t.size ≤ 9223372036854775807) (hn : -9223372036854775808 ≤ n ∧ n ≤ 9223372036854775807) (hf : RdS rF w S fv fs) :
    Calls Try.prog 24 #[.agg #[.string t, .int .i64 n, fv]] w fun e w' => e = .returned (.int .i64 (checkF (t, n, fs))) ∧ Below w.heap.size w w' := by
  obtain ⟨hn1, hn2⟩ := hn
  obtain ⟨fa, fc, rfl, hfc1, hfc2⟩ := hf.slice
  have HF := hid hf
  have hck := okTo_evOk (t, n, fs)
  dsimp only at hck
  have HCK := hid hck
  clear hf hck
  have hxa : Ext w (w.alloc (.cells #[.string t, .int .i64 n, .slice fa fs.length fc] 46)) := (Ext.refl w).alloc _
  have hall : (nameOk t = false ∨ (nameOk t = true ∧ n < 0) ∨ (nameOk t = true ∧ 0 ≤ n ∧ 1073741824 < n) ∨ (nameOk t = true ∧ 0 ≤ n ∧ n ≤ 1073741824 ∧ 16 < fs.length)) ∨ (nameOk t = true ∧ 0 ≤ n ∧ n ≤ 1073741824 ∧ fs.length ≤ 16) := by
    cases nameOk t <;> simp <;> omega
  rcases hall with hbad | ⟨g1, g2, g3, g4⟩
  · have hev : evOk (t, n, fs) = false := by
      cases hE : evOk (t, n, fs)
      · rfl
      · exfalso
        rw [hE] at HCK
        obtain ⟨h1, -⟩ := (okTo_iff _ fs _ (Nat.le_refl _)).1 HCK.out
        simp only [Bool.and_eq_true, decide_eq_true_eq] at h1
        rcases hbad with h | ⟨_, h⟩ | ⟨_, _, h⟩ | ⟨_, _, _, h⟩
        · rw [h] at h1; simp at h1
        all_goals omega
    have HC13 := hid (show checkF (t, n, fs) = 13 by unfold checkF; rw [hev]; rfl)
    clear hev HCK
    rcases hbad with h | ⟨h, h2⟩ | ⟨h, h2, h3⟩ | ⟨h, h2, h3, h4⟩
    all_goals
      have HH := hid h
      clear h
      go_enter Try.func24, Try.ntmps24
      go_wp2_with ((go_at_call 53; refine (named_any _ t ht).mono ?_; rw [HH.out]; rintro e w' ⟨rfl, rfl⟩))
      go_ret
      exact ⟨by rw [HC13.out]; rfl, hxa⟩
  · have hev : okTo true fs fs.length = evOk (t, n, fs) := by rw [← HCK.out, g1, decide_eq_true g2, decide_eq_true g3, decide_eq_true g4]; rfl
    have HEV := hid hev
    have G1 := hid g1
    clear g1 hev HCK
    go_enter Try.func24, Try.ntmps24
    go_wp2_with ((go_at_call 53; refine (named_any _ t ht).mono ?_; rw [G1.out]; rintro e w' ⟨rfl, rfl⟩))
    obtain ⟨wc, hww⟩ : ∃ wc, w.alloc (.cells #[.string t, .int .i64 n, .slice fa fs.length fc] 46) = wc := ⟨_, rfl⟩
    have hxc : Ext w wc := by rw [← hww]; exact hxa
    have hb0 : w.heap.size < wc.heap.size := by rw [← hww]; simp
    have hc2 : wc.cell? ⟨w.heap.size, 2, none⟩ = some (.slice fa fs.length fc) := by rw [← hww]; simp [go_sem]
    rw [hww]
    clear hww hxa
    have HC2 := hid hc2
    clear hc2
    go_loopw [4, 29] (fun u4 u29 wr => ∃ i : Nat, i ≤ fs.length ∧ u4 = .int .i64 i ∧ okTo true fs i = true ∧ Ext wc wr) (fun i _ _ => fs.length - (intOf i).toNat)
    case atStart => exact ⟨0, by omega, rfl, rfl, Ext.refl _⟩
    case round =>
      obtain ⟨wo, rfl⟩ : ∃ wo : World, wo = wr := ⟨_, rfl⟩
      obtain ⟨i, hi, rfl, hok, hxo⟩ := hrel
      have HOK := hid hok
      clear hok
      have hc2 := Ext.cellS hxo HC2.out
      by_cases hlt : i < fs.length
      · obtain ⟨g, o, cap, e, hg, -, d0, d1, d2, d3, hs1, hfi, hs2⟩ := (HF.out.ext (hxc.trans hxo)).atF i hlt
        simp only [Value.slice.injEq] at e
        obtain ⟨rfl, -, rfl⟩ := e
        have hsu := okTo_succ true fs i hlt
        rw [HOK.out, Bool.true_and, show min i 16 = i from by omega] at hsu
        have hbo : w.heap.size < wo.heap.size := by have := hxo.size; omega
        have hbn : ¬ w.heap.size = wo.heap.size := by omega
        generalize hfx : fs[i] = f at d0 d1 d2 d3 hs1 hfi hs2 hsu
        have HFX := hid hfx
        obtain ⟨fn, ft, fi, fx⟩ := f
        dsimp only at d0 d1 d2 d3 hs1 hs2 hsu
        have HS := hid hsu
        have hfi1 := hfi.1
        have hfi2 := hfi.2
        dsimp only at hfi1 hfi2
        clear hfx hfi hsu
        have hfo := fldOk_eq fn ft fi fx
        have HSTOP := hid (fun (h : okTo true fs (i + 1) = false) => show checkF (t, n, fs) = 13 by
          have := okTo_stop true fs (i + 1) (by omega) h
          unfold checkF
          rw [← HEV.out, this]; rfl)
        have hxb : Ext wo (wo.alloc (.cells #[.string fn, .bool ft, .int .i64 fi, .string fx] 108)) := (Ext.refl wo).alloc _
        have hfall : Ext w (wo.alloc (.cells #[.string fn, .bool ft, .int .i64 fi, .string fx] 108)) := hxc.trans (hxo.trans hxb)
        cases hnk : nameOk fn
        · rw [hnk] at hfo
          have HFO := hid hfo
          have HNK := hid hnk
          clear hfo hnk
          go_wp2_with ((go_at_call 53; refine (named_any _ fn hs1).mono ?_; rw [HNK.out]; rintro e w' ⟨rfl, rfl⟩))
          go_ret
          exact ⟨by rw [HSTOP.out (by rw [HS.out, HFO.out]; simp)]; rfl, hfall⟩
        · rw [hnk] at hfo
          have HFO := hid hfo
          have HNK := hid hnk
          clear hfo hnk
          have hgood : (fldOk (fn, ft, fi, fx) = true ∧ ((ft = true ∧ fx.size ≤ 200 ∧ fi = 0) ∨ (ft = false ∧ fx.size = 0))) ∨ (fldOk (fn, ft, fi, fx) = false ∧ ((ft = true ∧ 200 < fx.size) ∨ (ft = true ∧ fx.size ≤ 200 ∧ fi ≠ 0) ∨ (ft = false ∧ fx.size ≠ 0))) := by
            rw [HFO.out]
            cases ft
            · by_cases hz : fx.size = 0 <;> simp [hz]
            · by_cases hz : fx.size ≤ 200
              · by_cases hf0 : fi = 0 <;> simp [hz, hf0]
              · simp [hz]; omega
          rcases hgood with ⟨hfk, hcase⟩ | ⟨hfk, hcase⟩
          · have HFK := hid hfk
            clear hfk
            have hcase2 : (ft = true ∧ fx.size ≤ 200 ∧ fi = 0) ∨ (ft = false ∧ fx.size = 0) := hcase
            clear hcase
            rcases hcase2 with ⟨rfl, h1, rfl⟩ | ⟨rfl, h1⟩
            · have h1i : (fx.size : Int) ≤ 200 := by omega
              go_wp2_with ((go_at_call 53; refine (named_any _ fn hs1).mono ?_; rw [HNK.out]; rintro e w' ⟨rfl, rfl⟩))
              clear d0 d1 d2 d3
              have hww2 : Ext wo (wo.alloc (.cells #[.string fn, .bool true, .int .i64 0, .string fx] 108)) := hxb
              have f0 : (wo.alloc (.cells #[.string fn, .bool true, .int .i64 0, .string fx] 108)).cell? ⟨wo.heap.size, 0, none⟩ = some (.string fn) := by simp [go_sem]
              obtain ⟨wb, hwb⟩ : ∃ wb, wb = wo.alloc (.cells #[.string fn, .bool true, .int .i64 0, .string fx] 108) := ⟨_, rfl⟩
              have hbw : wo.heap.size < wb.heap.size := by rw [hwb]; simp
              rw [← hwb] at hxb hww2 hfall f0 ⊢
              clear hwb hxb
              have F0 := hid f0
              clear f0 hc2
              go_loopw [7, 71] (fun u7 u71 wr => ∃ j : Nat, j ≤ i ∧ u7 = .int .i64 j ∧ clash fs i fn j = true ∧ Ext wb wr) (fun j _ _ => i - (intOf j).toNat)
              case atStart => exact ⟨0, by omega, rfl, rfl, Ext.refl _⟩
              case round =>
                obtain ⟨j, hj, rfl, hcl, hxr⟩ := hrel
                have HCL := hid hcl
                clear hcl
                by_cases hji : j < i
                · have hjl : j < fs.length := by omega
                  obtain ⟨g', o', cap', e, hg', -, d0, -, -, -, hs1', -, -⟩ := (HF.out.ext (hxc.trans (hxo.trans (hww2.trans hxr)))).atF j hjl
                  simp only [Value.slice.injEq, Option.some.injEq, Addr.mk.injEq, and_true, true_and] at e
                  obtain ⟨⟨rfl, rfl⟩, rfl⟩ := e
                  have f0 := Ext.cellS hxr F0.out
                  have hc2 := Ext.cellS (hxo.trans (hww2.trans hxr)) HC2.out
                  have hcs := clash_succ fs i fn j hjl
                  rw [HCL.out, Bool.true_and] at hcs
                  generalize fs[j].1 = kn at d0 hs1' hcs
                  have i1 : (j : Int) < (fs.length : Int) := by omega
                  have i2 : (0 : Int) ≤ (j : Int) := by omega
                  by_cases hne : kn = fn
                  · have t1 : (kn.toList == fn.toList) = true := by rw [str_eqq]; exact decide_eq_true hne
                    have HST := hid (show okTo true fs (i + 1) = false by
                      rw [HS.out, clash_stop fs i fn (j + 1) i (by omega) (by omega) (by rw [hcs]; simp [hne])]; rfl)
                    have HC13 := hid (HSTOP.out HST.out)
                    clear hcs hne
                    go_wp2_with fail
                    go_quiet (fail)
                    go_wp2_with fail
                    go_ret
                    exact ⟨by rw [HC13.out]; rfl, hfall.trans (hxr.drewN _)⟩
                  · have t1 : (kn.toList == fn.toList) = false := by rw [str_eqq]; exact decide_eq_false hne
                    have HCS := hid (show clash fs i fn (j + 1) = true by rw [hcs]; simp; exact fun e => hne e.symm)
                    clear hcs hne
                    go_wp2_with fail
                    go_quiet (fail)
                    go_wp2_with fail
                    go_roundw
                    case rel => exact ⟨j + 1, by omega, by go_num, HCS.out, hxr.drewN _⟩
                    case measure => simp [intOf]; omega
                · obtain rfl : j = i := by omega
                  go_wp2_with fail
                  go_roundw
                  case rel => exact ⟨j + 1, by omega, by go_num, by rw [HS.out, HCL.out, HFK.out]; rfl, hxo.trans (hww2.trans hxr)⟩
                  case measure => simp [intOf]; omega
            · have z1 := str_nil h1
              go_wp2_with ((go_at_call 53; refine (named_any _ fn hs1).mono ?_; rw [HNK.out]; rintro e w' ⟨rfl, rfl⟩))
              clear d0 d1 d2 d3
              have hww2 : Ext wo (wo.alloc (.cells #[.string fn, .bool false, .int .i64 fi, .string fx] 108)) := hxb
              have f0 : (wo.alloc (.cells #[.string fn, .bool false, .int .i64 fi, .string fx] 108)).cell? ⟨wo.heap.size, 0, none⟩ = some (.string fn) := by simp [go_sem]
              obtain ⟨wb, hwb⟩ : ∃ wb, wb = wo.alloc (.cells #[.string fn, .bool false, .int .i64 fi, .string fx] 108) := ⟨_, rfl⟩
              have hbw : wo.heap.size < wb.heap.size := by rw [hwb]; simp
              rw [← hwb] at hxb hww2 hfall f0 ⊢
              clear hwb hxb
              have F0 := hid f0
              clear f0 hc2
              go_loopw [7, 71] (fun u7 u71 wr => ∃ j : Nat, j ≤ i ∧ u7 = .int .i64 j ∧ clash fs i fn j = true ∧ Ext wb wr) (fun j _ _ => i - (intOf j).toNat)
              case atStart => exact ⟨0, by omega, rfl, rfl, Ext.refl _⟩
              case round =>
                obtain ⟨j, hj, rfl, hcl, hxr⟩ := hrel
                have HCL := hid hcl
                clear hcl
                by_cases hji : j < i
                · have hjl : j < fs.length := by omega
                  obtain ⟨g', o', cap', e, hg', -, d0, -, -, -, hs1', -, -⟩ := (HF.out.ext (hxc.trans (hxo.trans (hww2.trans hxr)))).atF j hjl
                  simp only [Value.slice.injEq, Option.some.injEq, Addr.mk.injEq, and_true, true_and] at e
                  obtain ⟨⟨rfl, rfl⟩, rfl⟩ := e
                  have f0 := Ext.cellS hxr F0.out
                  have hc2 := Ext.cellS (hxo.trans (hww2.trans hxr)) HC2.out
                  have hcs := clash_succ fs i fn j hjl
                  rw [HCL.out, Bool.true_and] at hcs
                  generalize fs[j].1 = kn at d0 hs1' hcs
                  have i1 : (j : Int) < (fs.length : Int) := by omega
                  have i2 : (0 : Int) ≤ (j : Int) := by omega
                  by_cases hne : kn = fn
                  · have t1 : (kn.toList == fn.toList) = true := by rw [str_eqq]; exact decide_eq_true hne
                    have HST := hid (show okTo true fs (i + 1) = false by
                      rw [HS.out, clash_stop fs i fn (j + 1) i (by omega) (by omega) (by rw [hcs]; simp [hne])]; rfl)
                    have HC13 := hid (HSTOP.out HST.out)
                    clear hcs hne
                    go_wp2_with fail
                    go_quiet (fail)
                    go_wp2_with fail
                    go_ret
                    exact ⟨by rw [HC13.out]; rfl, hfall.trans (hxr.drewN _)⟩
                  · have t1 : (kn.toList == fn.toList) = false := by rw [str_eqq]; exact decide_eq_false hne
                    have HCS := hid (show clash fs i fn (j + 1) = true by rw [hcs]; simp; exact fun e => hne e.symm)
                    clear hcs hne
                    go_wp2_with fail
                    go_quiet (fail)
                    go_wp2_with fail
                    go_roundw
                    case rel => exact ⟨j + 1, by omega, by go_num, HCS.out, hxr.drewN _⟩
                    case measure => simp [intOf]; omega
                · obtain rfl : j = i := by omega
                  go_wp2_with fail
                  go_roundw
                  case rel => exact ⟨j + 1, by omega, by go_num, by rw [HS.out, HCL.out, HFK.out]; rfl, hxo.trans (hww2.trans hxr)⟩
                  case measure => simp [intOf]; omega
          · have HFK := hid hfk
            clear hfk
            rcases hcase with ⟨rfl, h1⟩ | ⟨rfl, h1, h2⟩ | ⟨rfl, h1⟩
            · have h1' : (200 : Int) < (fx.size : Int) := by omega
              go_wp2_with ((go_at_call 53; refine (named_any _ fn hs1).mono ?_; rw [HNK.out]; rintro e w' ⟨rfl, rfl⟩))
              go_ret
              exact ⟨by rw [HSTOP.out (by rw [HS.out, HFK.out]; simp)]; rfl, hfall⟩
            · have h2' : ((fi : Int) != 0) = true := by simpa using h2
              have H2 := hid h2
              clear h2
              go_wp2_with ((go_at_call 53; refine (named_any _ fn hs1).mono ?_; rw [HNK.out]; rintro e w' ⟨rfl, rfl⟩))
              go_ret
              exact ⟨by rw [HSTOP.out (by rw [HS.out, HFK.out]; simp)]; rfl, hfall⟩
            · have z1 := str_ne h1
              have z2 := str_ne' h1
              have H1 := hid h1
              clear h1
              go_wp2_with ((go_at_call 53; refine (named_any _ fn hs1).mono ?_; rw [HNK.out]; rintro e w' ⟨rfl, rfl⟩))
              go_ret
              exact ⟨by rw [HSTOP.out (by rw [HS.out, HFK.out]; simp)]; rfl, hfall⟩
      · obtain rfl : i = fs.length := by omega
        have HC0 := hid (show checkF (t, n, fs) = 0 by unfold checkF; rw [← HEV.out, HOK.out]; rfl)
        obtain ⟨_, _, e, _⟩ := (HF.out.ext (hxc.trans hxo)).slice
        go_wp2_with fail
        go_ret
        exact ⟨by rw [HC0.out]; rfl, hxc.trans hxo⟩
end Go.Proofs.Ythobhkmphjnlaaa
