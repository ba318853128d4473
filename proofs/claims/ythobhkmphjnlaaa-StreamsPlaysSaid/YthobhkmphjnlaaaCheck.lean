/- codec.Check, walked. -/
import Derived.Test.YthobhkmphjnlaaaEv
import Derived.Deep.DeepCutAuto
namespace Go.Proofs.Ythobhkmphjnlaaa
open Go.RowKit
set_option linter.unusedVariables false
set_option linter.unusedSimpArgs false

theorem str_neq (a b : ByteArray) : (!(a.toList == b.toList)) = decide (a ≠ b) := by
  rw [ByteArray.toList_eq, ByteArray.toList_eq, Bool.eq_iff_iff]
  simp only [Bool.not_eq_true', beq_eq_false_iff_ne, decide_eq_true_eq]
  constructor
  · rintro h rfl; exact h rfl
  · intro h e
    exact h (ByteArray.ext (Array.toList_inj.1 e))
theorem fldOk_eq (n : ByteArray) (t : Bool) (i : Int) (x : ByteArray) : fldOk (n, t, i, x) = (nameOk n && (if t then decide (x.size ≤ 200) && decide (i = 0) else decide (x.size = 0))) := rfl

set_option maxRecDepth 100000 in
set_option maxHeartbeats 4000000 in
theorem Check_any (w : World) (S : Nat → Prop) (t : ByteArray) (n : Int) (fv : Value) (fs : List Fld) (ht : t.size ≤ 9223372036854775807) (hn : -9223372036854775808 ≤ n ∧ n ≤ 9223372036854775807) (hf : RdS rF w S fv fs) :
    Calls Try.prog 23 #[.agg #[.string t, .int .i64 n, fv]] w fun e w' => e = .returned (.int .i64 (checkF (t, n, fs))) ∧ Below w.heap.size w w' := by
  obtain ⟨hn1, hn2⟩ := hn
  obtain ⟨fa, fc, rfl, hfc1, hfc2⟩ := hf.slice
  have HF := hid hf
  have HCK := hid (okTo_evOk (t, n, fs))
  obtain ⟨ok0, hok0⟩ : ∃ ok0, ok0 = (nameOk t && (decide (0 ≤ n) && (decide (n ≤ 1073741824) && decide (fs.length ≤ 16)))) := ⟨_, rfl⟩
  dsimp only at HCK
  rw [← hok0] at HCK
  have HOK0 := hid hok0
  clear hf hok0
  go_enter Try.func23, Try.ntmps23
  have hxa : Ext w (w.alloc (.cells #[.string t, .int .i64 n, .slice fa fs.length fc] 46)) := (Ext.refl w).alloc _
  go_upto_region 1 with fail
  go_cut [3] (fun s3 wx => s3 = .bool ok0 ∧ w.alloc (.cells #[.string t, .int .i64 n, .slice fa fs.length fc] 46) = wx)
  case first =>
    cases hnk : nameOk t
    all_goals
      go_wp2_with ((go_at_call 52; refine (name_any _ t ht).mono ?_; rw [hnk]; rintro e w' ⟨rfl, rfl⟩))
    all_goals
      go_meet
      refine ⟨congrArg Value.bool ?_, rfl⟩
      rw [HOK0.out, hnk]
      first | rfl | (simp; done) | (simp; omega) | (rw [Bool.eq_iff_iff]; simp; omega)
  case rest =>
    obtain ⟨rfl, hww⟩ := hcut
    have hxc : Ext w wc := by rw [← hww]; exact hxa
    have hb0 : w.heap.size < wc.heap.size := by rw [← hww]; simp
    have hc2 : wc.cell? ⟨w.heap.size, 2, none⟩ = some (.slice fa fs.length fc) := by rw [← hww]; simp [go_sem]
    clear hww hxa
    have HC2 := hid hc2
    go_wp2_with fail
    go_loopw [3, 30] (fun u3 u30 wr => ∃ i : Nat, i ≤ fs.length ∧ u30 = .int .i64 i ∧ u3 = .bool (okTo ok0 fs i) ∧ Ext wc wr) (fun _ i _ => fs.length - (intOf i).toNat)
    case atStart => exact ⟨0, by omega, rfl, rfl, Ext.refl _⟩
    case round =>
      obtain ⟨wo, rfl⟩ : ∃ wo : World, wo = wr := ⟨_, rfl⟩
      obtain ⟨i, hi, rfl, rfl, hxo⟩ := hrel
      by_cases hlt : i < fs.length
      · obtain ⟨g, o, cap, e, hg, -, d0, d1, d2, d3, hs1, hfi, hs2⟩ := (HF.out.ext (hxc.trans hxo)).atF i hlt
        simp only [Value.slice.injEq] at e
        obtain ⟨rfl, -, rfl⟩ := e
        have hc2 := Ext.cellS hxo HC2.out
        have HS := hid (okTo_succ ok0 fs i hlt)
        have hbo : w.heap.size < wo.heap.size := by have := hxo.size; omega
        have hbn : ¬ w.heap.size = wo.heap.size := by omega
        generalize hfx : fs[i] = f at d0 d1 d2 d3 hs1 hfi hs2 HS
        have HFX := hid hfx
        obtain ⟨fn, ft, fi, fx⟩ := f
        dsimp only at d0 d1 d2 d3 hs1 hs2 HS
        have hfi1 := hfi.1
        have hfi2 := hfi.2
        dsimp only at hfi1 hfi2
        clear hfx hfi
        have hmin : i ≤ 16 ∨ 16 < i := by omega
        rcases hmin with hm | hm
        · have hmi : min i 16 = i := by omega
          rw [hmi] at HS
          have hml : i ≤ fs.length := by omega
          clear hmi
          go_wp2_with fail
          clear hc2 d0 d1 d2 d3
          have hxb : Ext wo (wo.alloc (.cells #[.string fn, .bool ft, .int .i64 fi, .string fx] 108)) := (Ext.refl wo).alloc _
          have f0 : (wo.alloc (.cells #[.string fn, .bool ft, .int .i64 fi, .string fx] 108)).cell? ⟨wo.heap.size, 0, none⟩ = some (.string fn) := by simp [go_sem]
          have f1 : (wo.alloc (.cells #[.string fn, .bool ft, .int .i64 fi, .string fx] 108)).cell? ⟨wo.heap.size, 1, none⟩ = some (.bool ft) := by simp [go_sem]
          have f2 : (wo.alloc (.cells #[.string fn, .bool ft, .int .i64 fi, .string fx] 108)).cell? ⟨wo.heap.size, 2, none⟩ = some (.int .i64 fi) := by simp [go_sem]
          have f3 : (wo.alloc (.cells #[.string fn, .bool ft, .int .i64 fi, .string fx] 108)).cell? ⟨wo.heap.size, 3, none⟩ = some (.string fx) := by simp [go_sem]
          obtain ⟨wb, hwb⟩ : ∃ wb, wb = wo.alloc (.cells #[.string fn, .bool ft, .int .i64 fi, .string fx] 108) := ⟨_, rfl⟩
          have hbw : wo.heap.size < wb.heap.size := by rw [hwb]; simp
          rw [← hwb] at hxb f0 f1 f2 f3 ⊢
          clear hwb
          have F0 := hid f0
          have F1 := hid f1
          have F2 := hid f2
          have F3 := hid f3
          clear f0 f1 f2 f3
          go_loopw [3, 41] (fun u3 u41 wr => ∃ j : Nat, j ≤ i ∧ u41 = .int .i64 j ∧ u3 = .bool (okTo ok0 fs i && clash fs i fn j) ∧ Ext wb wr) (fun _ j _ => i - (intOf j).toNat)
          case atStart => exact ⟨0, by omega, rfl, by simp [clash], Ext.refl _⟩
          case round =>
            obtain ⟨j, hj, rfl, rfl, hxr⟩ := hrel
            by_cases hjm : j < i
            · have hjl : j < fs.length := by omega
              obtain ⟨g', o', cap', e, hg', -, d0, d1, d2, d3, hs1', hfi', hs2'⟩ := (HF.out.ext (hxc.trans (hxo.trans (hxb.trans hxr)))).atF j hjl
              simp only [Value.slice.injEq, Option.some.injEq, Addr.mk.injEq, and_true, true_and] at e
              obtain ⟨⟨rfl, rfl⟩, rfl⟩ := e
              have f0 := Ext.cellS hxr F0.out
              have hcs := clash_succ fs i fn j hjl
              generalize fs[j] = k at d0 d1 d2 d3 hs1' hs2' hcs
              obtain ⟨kn, kt, ki, kx⟩ := k
              dsimp only at d0 d1 d2 d3 hs1' hs2' hcs
              have HCS := hid hcs
              clear hcs hfi'
              have hrb := hxr.size
              have hrl : wo.heap.size < wr.heap.size := by omega
              have hrn : ¬ wo.heap.size = wr.heap.size := by omega
              cases hB : (okTo ok0 fs i && clash fs i fn j)
              · have HB := hid hB
                clear hB
                go_wp2_with fail
                go_roundw
                case rel => exact ⟨j + 1, by omega, by go_num, by rw [HCS.out, ← Bool.and_assoc, HB.out]; rfl, by (· repeat (first | (with_reducible assumption) | exact Ext.refl _ | refine Ext.alloc ?_ _ | refine Ext.drew ?_ | refine Ext.drewN ?_ _ | (apply Ext.snart; (with_reducible assumption))))⟩
                case measure => simp [intOf]; omega
              · have HB := hid hB
                clear hB
                go_wp2_with fail
                go_roundw
                case rel => exact ⟨j + 1, by omega, by go_num, by rw [HCS.out, ← Bool.and_assoc, HB.out, Bool.true_and, ← str_neq], by (· repeat (first | (with_reducible assumption) | exact Ext.refl _ | refine Ext.alloc ?_ _ | refine Ext.drew ?_ | refine Ext.drewN ?_ _ | (apply Ext.snart; (with_reducible assumption))))⟩
                case measure => simp [intOf]; omega
            · obtain rfl : i = j := by omega
              have hrb := hxr.size
              have hrl : wo.heap.size < wr.heap.size := by omega
              have f0 := Ext.cellS hxr F0.out
              have f1 := Ext.cellS hxr F1.out
              have f2 := Ext.cellS hxr F2.out
              have f3 := Ext.cellS hxr F3.out
              have hxall : Ext wc wr := hxo.trans (hxb.trans hxr)
              rw [← Bool.and_assoc] at HS
              cases hB : (okTo ok0 fs i && clash fs i fn i)
              · have HB := hid hB
                clear hB
                go_wp2_with fail
                go_roundw
                case rel => exact ⟨i + 1, by omega, by go_num, by rw [HS.out, HB.out]; rfl, hxall⟩
                case measure => simp [intOf]; omega
              · have HB := hid hB
                clear hB
                have hfo := fldOk_eq fn ft fi fx
                cases hnk : nameOk fn
                · rw [hnk] at hfo
                  have HFO := hid hfo
                  have HNK := hid hnk
                  clear hfo hnk
                  go_wp2_with ((go_at_call 52; refine (name_any _ fn hs1).mono ?_; rw [HNK.out]; rintro e w' ⟨rfl, rfl⟩))
                  go_roundw
                  case rel => exact ⟨i + 1, by omega, by go_num, by rw [HS.out, HB.out, HFO.out]; rfl, hxall⟩
                  case measure => simp [intOf]; omega
                · rw [hnk] at hfo
                  have HFO := hid hfo
                  have HNK := hid hnk
                  clear hfo hnk
                  cases ft
                  · by_cases hz : fx.size = 0
                    · have z1 := str_nil hz
                      have HZ := hid hz
                      clear hz
                      go_wp2_with ((go_at_call 52; refine (name_any _ fn hs1).mono ?_; rw [HNK.out]; rintro e w' ⟨rfl, rfl⟩))
                      go_roundw
                      case rel => exact ⟨i + 1, by omega, by go_num, by rw [HS.out, HB.out, HFO.out]; simp [HZ.out], hxall⟩
                      case measure => simp [intOf]; omega
                    · have z1 := str_ne hz
                      have z2 := str_ne' hz
                      have HZ := hid hz
                      clear hz
                      go_wp2_with ((go_at_call 52; refine (name_any _ fn hs1).mono ?_; rw [HNK.out]; rintro e w' ⟨rfl, rfl⟩))
                      go_roundw
                      case rel => exact ⟨i + 1, by omega, by go_num, by rw [HS.out, HB.out, HFO.out]; simp [HZ.out], hxall⟩
                      case measure => simp [intOf]; omega
                  · by_cases hz : fx.size ≤ 200
                    · have hzi : decide ((fx.size : Int) ≤ 200) = true := decide_eq_true (by omega)
                      by_cases hf0 : fi = 0
                      · subst hf0
                        go_wp2_with ((go_at_call 52; refine (name_any _ fn hs1).mono ?_; rw [HNK.out]; rintro e w' ⟨rfl, rfl⟩))
                        go_roundw
                        case rel => exact ⟨i + 1, by omega, by go_num, by rw [HS.out, HB.out, HFO.out]; simp [hz], hxall⟩
                        case measure => simp [intOf]; omega
                      · have hf1 : ((fi : Int) == 0) = false := by simpa using hf0
                        have HF0 := hid hf0
                        clear hf0
                        go_wp2_with ((go_at_call 52; refine (name_any _ fn hs1).mono ?_; rw [HNK.out]; rintro e w' ⟨rfl, rfl⟩))
                        go_roundw
                        case rel => exact ⟨i + 1, by omega, by go_num, by rw [HS.out, HB.out, HFO.out]; simp [HF0.out], hxall⟩
                        case measure => simp [intOf]; omega
                    · have hzi : decide ((fx.size : Int) ≤ 200) = false := decide_eq_false (by omega)
                      go_wp2_with ((go_at_call 52; refine (name_any _ fn hs1).mono ?_; rw [HNK.out]; rintro e w' ⟨rfl, rfl⟩))
                      go_roundw
                      case rel => exact ⟨i + 1, by omega, by go_num, by rw [HS.out, HB.out, HFO.out]; simp [hz], hxall⟩
                      case measure => simp [intOf]; omega
        · have hmi : min i 16 = 16 := by omega
          rw [hmi] at HS
          have hml : 16 ≤ fs.length := by omega
          clear hmi
          go_wp2_with fail
          clear hc2 d0 d1 d2 d3
          have hxb : Ext wo (wo.alloc (.cells #[.string fn, .bool ft, .int .i64 fi, .string fx] 108)) := (Ext.refl wo).alloc _
          have f0 : (wo.alloc (.cells #[.string fn, .bool ft, .int .i64 fi, .string fx] 108)).cell? ⟨wo.heap.size, 0, none⟩ = some (.string fn) := by simp [go_sem]
          have f1 : (wo.alloc (.cells #[.string fn, .bool ft, .int .i64 fi, .string fx] 108)).cell? ⟨wo.heap.size, 1, none⟩ = some (.bool ft) := by simp [go_sem]
          have f2 : (wo.alloc (.cells #[.string fn, .bool ft, .int .i64 fi, .string fx] 108)).cell? ⟨wo.heap.size, 2, none⟩ = some (.int .i64 fi) := by simp [go_sem]
          have f3 : (wo.alloc (.cells #[.string fn, .bool ft, .int .i64 fi, .string fx] 108)).cell? ⟨wo.heap.size, 3, none⟩ = some (.string fx) := by simp [go_sem]
          obtain ⟨wb, hwb⟩ : ∃ wb, wb = wo.alloc (.cells #[.string fn, .bool ft, .int .i64 fi, .string fx] 108) := ⟨_, rfl⟩
          have hbw : wo.heap.size < wb.heap.size := by rw [hwb]; simp
          rw [← hwb] at hxb f0 f1 f2 f3 ⊢
          clear hwb
          have F0 := hid f0
          have F1 := hid f1
          have F2 := hid f2
          have F3 := hid f3
          clear f0 f1 f2 f3
          go_loopw [3, 41] (fun u3 u41 wr => ∃ j : Nat, j ≤ 16 ∧ u41 = .int .i64 j ∧ u3 = .bool (okTo ok0 fs i && clash fs i fn j) ∧ Ext wb wr) (fun _ j _ => 16 - (intOf j).toNat)
          case atStart => exact ⟨0, by omega, rfl, by simp [clash], Ext.refl _⟩
          case round =>
            obtain ⟨j, hj, rfl, rfl, hxr⟩ := hrel
            by_cases hjm : j < 16
            · have hjl : j < fs.length := by omega
              obtain ⟨g', o', cap', e, hg', -, d0, d1, d2, d3, hs1', hfi', hs2'⟩ := (HF.out.ext (hxc.trans (hxo.trans (hxb.trans hxr)))).atF j hjl
              simp only [Value.slice.injEq, Option.some.injEq, Addr.mk.injEq, and_true, true_and] at e
              obtain ⟨⟨rfl, rfl⟩, rfl⟩ := e
              have f0 := Ext.cellS hxr F0.out
              have hcs := clash_succ fs i fn j hjl
              generalize fs[j] = k at d0 d1 d2 d3 hs1' hs2' hcs
              obtain ⟨kn, kt, ki, kx⟩ := k
              dsimp only at d0 d1 d2 d3 hs1' hs2' hcs
              have HCS := hid hcs
              clear hcs hfi'
              have hrb := hxr.size
              have hrl : wo.heap.size < wr.heap.size := by omega
              have hrn : ¬ wo.heap.size = wr.heap.size := by omega
              cases hB : (okTo ok0 fs i && clash fs i fn j)
              · have HB := hid hB
                clear hB
                go_wp2_with fail
                go_roundw
                case rel => exact ⟨j + 1, by omega, by go_num, by rw [HCS.out, ← Bool.and_assoc, HB.out]; rfl, by (· repeat (first | (with_reducible assumption) | exact Ext.refl _ | refine Ext.alloc ?_ _ | refine Ext.drew ?_ | refine Ext.drewN ?_ _ | (apply Ext.snart; (with_reducible assumption))))⟩
                case measure => simp [intOf]; omega
              · have HB := hid hB
                clear hB
                go_wp2_with fail
                go_roundw
                case rel => exact ⟨j + 1, by omega, by go_num, by rw [HCS.out, ← Bool.and_assoc, HB.out, Bool.true_and, ← str_neq], by (· repeat (first | (with_reducible assumption) | exact Ext.refl _ | refine Ext.alloc ?_ _ | refine Ext.drew ?_ | refine Ext.drewN ?_ _ | (apply Ext.snart; (with_reducible assumption))))⟩
                case measure => simp [intOf]; omega
            · obtain rfl : j = 16 := by omega
              have hrb := hxr.size
              have hrl : wo.heap.size < wr.heap.size := by omega
              have f0 := Ext.cellS hxr F0.out
              have f1 := Ext.cellS hxr F1.out
              have f2 := Ext.cellS hxr F2.out
              have f3 := Ext.cellS hxr F3.out
              have hxall : Ext wc wr := hxo.trans (hxb.trans hxr)
              rw [← Bool.and_assoc] at HS
              cases hB : (okTo ok0 fs i && clash fs i fn 16)
              · have HB := hid hB
                clear hB
                go_wp2_with fail
                go_roundw
                case rel => exact ⟨i + 1, by omega, by go_num, by rw [HS.out, HB.out]; rfl, hxall⟩
                case measure => simp [intOf]; omega
              · have HB := hid hB
                clear hB
                have hfo := fldOk_eq fn ft fi fx
                cases hnk : nameOk fn
                · rw [hnk] at hfo
                  have HFO := hid hfo
                  have HNK := hid hnk
                  clear hfo hnk
                  go_wp2_with ((go_at_call 52; refine (name_any _ fn hs1).mono ?_; rw [HNK.out]; rintro e w' ⟨rfl, rfl⟩))
                  go_roundw
                  case rel => exact ⟨i + 1, by omega, by go_num, by rw [HS.out, HB.out, HFO.out]; rfl, hxall⟩
                  case measure => simp [intOf]; omega
                · rw [hnk] at hfo
                  have HFO := hid hfo
                  have HNK := hid hnk
                  clear hfo hnk
                  cases ft
                  · by_cases hz : fx.size = 0
                    · have z1 := str_nil hz
                      have HZ := hid hz
                      clear hz
                      go_wp2_with ((go_at_call 52; refine (name_any _ fn hs1).mono ?_; rw [HNK.out]; rintro e w' ⟨rfl, rfl⟩))
                      go_roundw
                      case rel => exact ⟨i + 1, by omega, by go_num, by rw [HS.out, HB.out, HFO.out]; simp [HZ.out], hxall⟩
                      case measure => simp [intOf]; omega
                    · have z1 := str_ne hz
                      have z2 := str_ne' hz
                      have HZ := hid hz
                      clear hz
                      go_wp2_with ((go_at_call 52; refine (name_any _ fn hs1).mono ?_; rw [HNK.out]; rintro e w' ⟨rfl, rfl⟩))
                      go_roundw
                      case rel => exact ⟨i + 1, by omega, by go_num, by rw [HS.out, HB.out, HFO.out]; simp [HZ.out], hxall⟩
                      case measure => simp [intOf]; omega
                  · by_cases hz : fx.size ≤ 200
                    · have hzi : decide ((fx.size : Int) ≤ 200) = true := decide_eq_true (by omega)
                      by_cases hf0 : fi = 0
                      · subst hf0
                        go_wp2_with ((go_at_call 52; refine (name_any _ fn hs1).mono ?_; rw [HNK.out]; rintro e w' ⟨rfl, rfl⟩))
                        go_roundw
                        case rel => exact ⟨i + 1, by omega, by go_num, by rw [HS.out, HB.out, HFO.out]; simp [hz], hxall⟩
                        case measure => simp [intOf]; omega
                      · have hf1 : ((fi : Int) == 0) = false := by simpa using hf0
                        have HF0 := hid hf0
                        clear hf0
                        go_wp2_with ((go_at_call 52; refine (name_any _ fn hs1).mono ?_; rw [HNK.out]; rintro e w' ⟨rfl, rfl⟩))
                        go_roundw
                        case rel => exact ⟨i + 1, by omega, by go_num, by rw [HS.out, HB.out, HFO.out]; simp [HF0.out], hxall⟩
                        case measure => simp [intOf]; omega
                    · have hzi : decide ((fx.size : Int) ≤ 200) = false := decide_eq_false (by omega)
                      go_wp2_with ((go_at_call 52; refine (name_any _ fn hs1).mono ?_; rw [HNK.out]; rintro e w' ⟨rfl, rfl⟩))
                      go_roundw
                      case rel => exact ⟨i + 1, by omega, by go_num, by rw [HS.out, HB.out, HFO.out]; simp [hz], hxall⟩
                      case measure => simp [intOf]; omega
      · obtain rfl : i = fs.length := by omega
        cases hE : evOk (t, n, fs)
        · have HEE := hid (HCK.out.trans hE)
          have HC13 := hid (show checkF (t, n, fs) = 13 by unfold checkF; rw [hE]; rfl)
          clear hE
          rw [HEE.out]
          go_wp2_with fail
          go_ret
          exact ⟨by rw [HC13.out]; rfl, hxc.trans hxo⟩
        · have HEE := hid (HCK.out.trans hE)
          have HC13 := hid (show checkF (t, n, fs) = 0 by unfold checkF; rw [hE]; rfl)
          clear hE
          rw [HEE.out]
          go_wp2_with fail
          go_ret
          exact ⟨by rw [HC13.out]; rfl, hxc.trans hxo⟩
end Go.Proofs.Ythobhkmphjnlaaa
