/- codec.Batch, walked. -/
import Derived.Test.YthobhkmphjnlaaaEqB
import Derived.Test.YthobhkmphjnlaaaPutB
import Derived.Test.YthobhkmphjnlaaaAppFE
import Derived.Deep.RegionLaw
namespace Go.Proofs.Ythobhkmphjnlaaa
open Go.RowKit
set_option linter.unusedVariables false
set_option linter.unusedSimpArgs false

theorem heap_alloc_size (w : World) (o : Obj) : (w.alloc o).heap.size = w.heap.size + 1 := by simp
theorem accF_end (m : Nat) (st : St) (acc : List Fld) (h : ¬ (0 < m ∧ st.2 = false)) : accF m st acc = (acc, st) := by
  by_cases h0 : m = 0
  · subst h0; exact accF_zero st acc
  · exact accF_bad m st acc (by cases hb : st.2; exact absurd ⟨by omega, hb⟩ h; rfl)
theorem accE_end (m : Nat) (st : St) (acc : List Ev) (h : ¬ (0 < m ∧ st.2 = false)) : accE m st acc = (acc, st) := by
  by_cases h0 : m = 0
  · subst h0; exact accE_zero st acc
  · exact accE_bad m st acc (by cases hb : st.2; exact absurd ⟨by omega, hb⟩ h; rfl)
/-- what codec.Batch hands back -/
def BatEnd (w : World) (l : List UInt8) (e : Ending) (w' : World) : Prop :=
  ((batF l).2 ≠ 0 → e = .returned (.tuple #[.agg #[.string ⟨#[]⟩, .string ⟨#[]⟩, .int .i64 0, .slice none 0 0], .int .i64 11])) ∧
  ((batF l).2 = 0 → ∃ ev, e = .returned (.tuple #[.agg #[.string (batF l).1.1, .string (batF l).1.2.1, .int .i64 (batF l).1.2.2.1, ev], .int .i64 0]) ∧ RdS rE w' (fun k => w.heap.size ≤ k) ev (batF l).1.2.2.2) ∧ Ext w w'

set_option maxRecDepth 100000 in
set_option maxHeartbeats 8000000 in
theorem Batch_any (w : World) (v : Value) (l : List UInt8) (hv : RdB w v l) (hl : l.length ≤ 140737488351232) :
    Calls Try.prog 32 #[v] w (BatEnd w l) := by
  obtain ⟨a, cap, rfl, hc1, hc2, -, hlt0⟩ := id hv
  have HV := hid hv
  have HVB := hid (show 0 < l.length → ∀ k, (Value.slice a l.length cap).ownBlock = some k → k < w.heap.size by
    intro h k hk
    obtain ⟨g, o, rfl, hg, -⟩ := hlt0 h
    simp only [Value.ownBlock, Option.map_some, Option.some.injEq] at hk
    omega)
  have hcapI : cap ≤ 9223372036854775807 := by unfold maxLen at hc2; omega
  clear hlt0 hc2 hv
  obtain ⟨wz, hwz⟩ : ∃ wz, wz = w.alloc (.cells #[.string ⟨#[]⟩, .string ⟨#[]⟩, .int .i64 0, .slice none 0 0] 31) := ⟨_, rfl⟩
  obtain ⟨wa, hwa⟩ : ∃ wa, wa = wz.alloc (.cells #[.slice a l.length cap, .bool false] 119) := ⟨_, rfl⟩
  have hz1 : wz.heap.size = w.heap.size + 1 := by rw [hwz]; simp
  have ha1 : wa.heap.size = w.heap.size + 2 := by rw [hwa]; simp [hz1]
  have hxz : Ext w wz := by rw [hwz]; exact (Ext.refl w).alloc _
  have hxza : Ext wz wa := by rw [hwa]; exact (Ext.refl wz).alloc _
  have HRZ := hid (show wa.heap[w.heap.size]? = some (.cells #[.string ⟨#[]⟩, .string ⟨#[]⟩, .int .i64 0, .slice none 0 0] 31 (0, 0)) from (Below.block hxza _ (by omega)).trans (by rw [hwz]; exact heap_alloc_new _ _))
  have HC0 := hid (show CurC wa (w.heap.size + 1) w.heap.size (l, false) from ⟨_, by rw [hwa, ← hz1]; exact heap_alloc_new _ _, HV.out.ext (hxz.trans hxza), fun h k hk => HVB.out h k hk, by omega⟩)
  have HXA := hid (hxz.trans hxza)
  obtain ⟨s0, st1, hs0⟩ : ∃ s0 st1, rText ((60 : Nat) : Int) (l, false) = (s0, st1) := ⟨_, _, rfl⟩
  obtain ⟨k0, st2, hk0⟩ : ∃ k0 st2, rText ((60 : Nat) : Int) st1 = (k0, st2) := ⟨_, _, rfl⟩
  obtain ⟨f0, st3, hf0⟩ : ∃ f0 st3, rNum 1099511627776 st2 = (f0, st3) := ⟨_, _, rfl⟩
  obtain ⟨n0, st4, hn0⟩ : ∃ n0 st4, rNum 16 st3 = (n0, st4) := ⟨_, _, rfl⟩
  obtain ⟨ES, STE, hES⟩ : ∃ ES STE, accE n0 st4 [] = (ES, STE) := ⟨_, _, rfl⟩
  have hrb : rBat l = ((s0, k0, (f0 : Int), ES), STE) := by
    have h1 : (rEvs n0 st4) = (ES, STE) := by rw [← hES]; simp [accE]
    unfold rBat
    rw [show rText 60 (l, false) = (s0, st1) from hs0]
    dsimp only
    rw [show rText 60 st1 = (k0, st2) from hk0]
    dsimp only
    rw [hf0]
    dsimp only
    rw [hn0]
    dsimp only
    rw [h1]
  have l1 := rText_len ((60 : Nat) : Int) (l, false)
  have l2 := rText_len ((60 : Nat) : Int) st1
  have l3 := rNum_len 1099511627776 st2
  have l4 := rNum_len 16 st3
  rw [hs0] at l1
  rw [hk0] at l2
  rw [hf0] at l3
  rw [hn0] at l4
  dsimp only at l1 l2 l3 l4
  have HS0 := hid hs0
  have HK0 := hid hk0
  have HF0 := hid hf0
  have HN0 := hid hn0
  have HES := hid hES
  have HRB := hid hrb
  clear hs0 hk0 hf0 hn0 hES hrb hxz hxza
  go_enter Try.func32, Try.ntmps32
  go_wp2_with fail
  rw [← hwz, ← hwa]
  clear hwz hwa hz1
  obtain ⟨g, hg⟩ : ∃ g, g = w.heap.size + 1 := ⟨_, rfl⟩
  rw [show CurC wa (w.heap.size + 1) = CurC wa g by rw [hg]] at HC0
  rw [← hg]
  have hg1 : w.heap.size < g ∧ g < w.heap.size + 2 := by omega
  clear hg
  obtain ⟨hg1, hg2⟩ := hg1
  refine (text_any wa g w.heap.size (l, false) 60 HC0.out (by omega) (by show l.length ≤ _; omega)).mono ?_
  rw [HS0.out]
  rintro e w1 ⟨rfl, HC1, hk1⟩
  dsimp only at HC1
  go_wp2_with fail
  refine (text_any w1 g w.heap.size st1 60 HC1 (by omega) (by omega)).mono ?_
  rw [HK0.out]
  rintro e w2 ⟨rfl, HC2, hk2⟩
  dsimp only at HC2
  go_wp2_with fail
  refine (number_any w2 g w.heap.size st2 1099511627776 HC2 (by omega) (by omega)).mono ?_
  rw [HF0.out]
  rintro e w3 ⟨rfl, HC3, hk3⟩
  dsimp only at HC3
  have HC3 := hid HC3
  clear HC1 HC2
  have hs1 := hk1.size
  have hs2 := hk2.size
  have hs3 := hk3.size
  have HKA := hid (hk1.trans (hk2.trans hk3))
  go_wp2_with fail
  obtain ⟨wx, hwx⟩ : ∃ wx, wx = w3.alloc (.cells #[.string s0, .string k0, .int .i64 (f0 : Int), .slice none 0 0] 31) := ⟨_, rfl⟩
  rw [← hwx]
  have hxx : Ext w3 wx := by rw [hwx]; exact (Ext.refl _).alloc _
  have hrx : wx.heap[w3.heap.size]? = some (.cells #[.string s0, .string k0, .int .i64 (f0 : Int), .slice none 0 0] 31 (0, 0)) := by rw [hwx]; exact heap_alloc_new _ _
  have hsx : wx.heap.size = w3.heap.size + 1 := by rw [hwx]; simp
  clear hwx
  obtain ⟨gx, hgx⟩ : ∃ gx, gx = w3.heap.size := ⟨_, rfl⟩
  rw [← hgx] at hrx ⊢
  refine (number_any wx g w.heap.size st3 16 (HC3.out.ext hxx) (by omega) (by omega)).mono ?_
  rw [HN0.out]
  rintro e w4 ⟨rfl, HC4, hk4⟩
  dsimp only at HC4
  have hs4 := hk4.size
  have HC4 := hid HC4
  have hgx2 : g < gx := by omega
  have hgx3 : gx < w4.heap.size := by omega
  have hrx4 : w4.heap[gx]? = _ := (hk4.block gx (by omega) (by omega)).trans hrx
  have hrz4 : w4.heap[w.heap.size]? = _ := (hk4.block _ (by show w.heap.size ≠ g; omega) (by omega)).trans ((Below.block hxx _ (by omega)).trans ((HKA.out.block _ (by show w.heap.size ≠ g; omega) (by omega)).trans HRZ.out))
  have hx4 : Ext w w4 := Below.trans (Below.trans HXA.out (HKA.out.below w.heap.size (by omega) (fun k hk => by omega))) (Below.trans (Below.mono hxx (by omega)) (hk4.below w.heap.size (by omega) (fun k hk => by omega)))
  have HRX4 := hid hrx4
  have HRZ4 := hid hrz4
  have HX4 := hid hx4
  clear hk1 hk2 hk3 hk4 hxx hrx hrx4 hrz4 hx4 hs1 hs2 hs3 hs4 hsx hgx HC3 HC0 HKA HRZ HXA HS0 HK0 HF0 HN0
  go_wp2_with fail
  go_loopw [6] (fun u6 wr => ∃ m : Nat, ∃ st : St, ∃ acc : List Ev, ∃ ev : Value, ∃ S : Nat → Prop, u6 = .int .i64 m ∧ accE m st acc = (ES, STE) ∧ acc.length + m ≤ 16 ∧ st.1.length ≤ l.length ∧ CurC wr g w.heap.size st ∧ wr.heap[gx]? = some (.cells #[.string s0, .string k0, .int .i64 (f0 : Int), ev] 31 (0, 0)) ∧ wr.heap[w.heap.size]? = some (.cells #[.string ⟨#[]⟩, .string ⟨#[]⟩, .int .i64 0, .slice none 0 0] 31 (0, 0)) ∧ OwnS rE 46 wr (gx + 1) S ev acc ∧ (∀ k, S k → gx < k ∧ k < wr.heap.size) ∧ gx < wr.heap.size ∧ Ext w wr) (fun m _ => (intOf m).toNat)
  case atStart => exact ⟨n0, st4, [], .slice none 0 0, fun _ => False, rfl, HES.out, by simp; omega, by omega, HC4.out, HRX4.out, HRZ4.out, OwnS.nil _ _ _ _ _, fun _ h => h.elim, hgx3, HX4.out⟩
  case round =>
    clear HC4 HRX4 HRZ4 HX4 HES hgx3
    obtain ⟨wo, rfl⟩ : ∃ wo : World, wo = wr := ⟨_, rfl⟩
    obtain ⟨m, st, acc, ev, S, rfl, hrel, hml, hstl, hcur, hrx, hrz, hown, hS, hgxl, hx⟩ := hrel
    have HREL := hid hrel
    have HCUR := hid hcur
    have HRX := hid hrx
    have HRZ := hid hrz
    have HOWN := hid hown
    have HSS := hid hS
    have HX := hid hx
    have cbad := hcur.bad
    have hxsz := hx.size
    have hfz := frozen_blk hrx 3
    obtain ⟨ea, ec, rfl⟩ := hown.slice
    have cx3 : wo.cell? ⟨gx, 3, none⟩ = some (.slice ea acc.length ec) := (cell_of_row _ _ _ _ _ _ hrx).trans rfl
    clear hrel hcur hrx hrz hown hS hx
    by_cases hgo : 0 < m ∧ st.2 = false
    · obtain ⟨hm, hsb⟩ := hgo
      obtain ⟨m, rfl⟩ : ∃ k, m = k + 1 := ⟨m - 1, by omega⟩
      have HSUC := hid (HREL.out.symm.trans (accE_succ m st acc hsb))
      rw [hsb] at cbad
      obtain ⟨t, sA, hA⟩ : ∃ t sA, rText ((60 : Nat) : Int) st = (t, sA) := ⟨_, _, rfl⟩
      obtain ⟨vn, sB, hB⟩ : ∃ v sB, rNum 1073741824 sA = (v, sB) := ⟨_, _, rfl⟩
      obtain ⟨kk, sC, hC⟩ : ∃ kk sC, rNum 16 sB = (kk, sC) := ⟨_, _, rfl⟩
      obtain ⟨FSz, sD, hD⟩ : ∃ FSz sD, accF kk sC [] = (FSz, sD) := ⟨_, _, rfl⟩
      have hrev : rEv st = ((t, (vn : Int), FSz), sD) := by
        have h1 : (rFlds kk sC) = (FSz, sD) := by rw [← hD]; simp [accF]
        unfold rEv
        rw [show rText 60 st = (t, sA) from hA]
        dsimp only
        rw [hB]
        dsimp only
        rw [hC]
        dsimp only
        rw [h1]
      rw [hrev] at HSUC
      dsimp only at HSUC
      have lA := rText_len ((60 : Nat) : Int) st
      have lB := rNum_len 1073741824 sA
      have lC := rNum_len 16 sB
      rw [hA] at lA
      rw [hB] at lB
      rw [hC] at lC
      dsimp only at lA lB lC
      have HA := hid hA
      have HB := hid hB
      have HC := hid hC
      have HD := hid hD
      clear hA hB hC hD hrev HREL hsb
      go_wp2_with fail
      refine (text_any wo g w.heap.size st 60 HCUR.out (by omega) (by omega)).mono ?_
      rw [HA.out]
      rintro e w1 ⟨rfl, HC1, hk1⟩
      dsimp only at HC1
      have HC1 := hid HC1
      clear cbad cx3 hfz
      go_wp2_with fail
      refine (number_any w1 g w.heap.size sA 1073741824 HC1.out (by omega) (by omega)).mono ?_
      rw [HB.out]
      rintro e w2 ⟨rfl, HC2, hk2⟩
      dsimp only at HC2
      have HC2 := hid HC2
      have hs1 := hk1.size
      have hs2 := hk2.size
      have HK2 := hid (hk1.trans hk2)
      clear hk1 hk2 HC1
      go_wp2_with fail
      obtain ⟨we, hwe⟩ : ∃ we, we = w2.alloc (.cells #[.string t, .int .i64 (vn : Int), .slice none 0 0] 46) := ⟨_, rfl⟩
      rw [← hwe]
      have hxe : Ext w2 we := by rw [hwe]; exact (Ext.refl _).alloc _
      have hre : we.heap[w2.heap.size]? = some (.cells #[.string t, .int .i64 (vn : Int), .slice none 0 0] 46 (0, 0)) := by rw [hwe]; exact heap_alloc_new _ _
      have hse : we.heap.size = w2.heap.size + 1 := by rw [hwe]; simp
      clear hwe
      obtain ⟨ge, hge⟩ : ∃ ge, ge = w2.heap.size := ⟨_, rfl⟩
      rw [← hge] at hre ⊢
      refine (number_any we g w.heap.size sB 16 (HC2.out.ext hxe) (by omega) (by omega)).mono ?_
      rw [HC.out]
      rintro e w3 ⟨rfl, HC3, hk3⟩
      dsimp only at HC3
      have hs3 := hk3.size
      have hge2 : wo.heap.size ≤ ge := by omega
      have hge3 : ge < w3.heap.size := by omega
      have HC3 := hid HC3
      have HRE := hid ((hk3.block ge (by omega) (by omega)).trans hre)
      have HK3 := hid (show Keep (fun k => k ≠ g ∧ k < ge) wo w3 from (HK2.out.mono fun k hk _ => hk.1).trans ((hxe.keep _).trans (hk3.mono fun k hk _ => hk.1)))
      clear hxe hre hse hge hk3 hs1 hs2 HC2 HK2 HA HB HC hs3
      go_wp2_with fail
      go_loopw [8] (fun u8 wr => ∃ m2 : Nat, ∃ sti : St, ∃ facc : List Fld, ∃ fv : Value, u8 = .int .i64 m2 ∧ accF m2 sti facc = (FSz, sD) ∧ facc.length + m2 ≤ 16 ∧ sti.1.length ≤ l.length ∧ CurC wr g w.heap.size sti ∧ wr.heap[ge]? = some (.cells #[.string t, .int .i64 (vn : Int), fv] 46 (0, 0)) ∧ OwnS rF 108 wr (ge + 1) (fun _ => False) fv facc ∧ Keep (fun k => k ≠ g ∧ k < ge) wo wr ∧ ge < wr.heap.size) (fun m2 _ => (intOf m2).toNat)
      case atStart => exact ⟨kk, sC, [], .slice none 0 0, rfl, HD.out, by simp; omega, by omega, HC3.out, HRE.out, OwnS.nil _ _ _ _ _, HK3.out, hge3⟩
      case round =>
        clear HC3 HRE HK3 HD hge3
        obtain ⟨wi, rfl⟩ : ∃ wi : World, wi = wr := ⟨_, rfl⟩
        obtain ⟨m2, sti, facc, fv, rfl, hrelf, hfl, hstil, hcur, hre, hownf, hki, hgei⟩ := hrel
        have HRELF := hid hrelf
        have HCI := hid hcur
        have HREI := hid hre
        have HOF := hid hownf
        have HKI := hid hki
        have cbad := hcur.bad
        obtain ⟨fa, fc, rfl⟩ := hownf.slice
        have ce0 : wi.cell? ⟨ge, 0, none⟩ = some (.string t) := (cell_of_row _ _ _ _ _ _ hre).trans rfl
        have ce1 : wi.cell? ⟨ge, 1, none⟩ = some (.int .i64 (vn : Int)) := (cell_of_row _ _ _ _ _ _ hre).trans rfl
        have ce2 : wi.cell? ⟨ge, 2, none⟩ = some (.slice fa facc.length fc) := (cell_of_row _ _ _ _ _ _ hre).trans rfl
        have hfe := frozen_blk hre 2
        clear hrelf hcur hre hownf hki
        by_cases hgo2 : 0 < m2 ∧ sti.2 = false
        · obtain ⟨hm2, hsb2⟩ := hgo2
          obtain ⟨m2, rfl⟩ : ∃ k, m2 = k + 1 := ⟨m2 - 1, by omega⟩
          have HSUCF := hid (HRELF.out.symm.trans (accF_succ m2 sti facc hsb2))
          rw [hsb2] at cbad
          have lF := rFld_len sti
          obtain ⟨F, hF⟩ : ∃ F, rFld sti = F := ⟨_, rfl⟩
          rw [hF] at HSUCF lF
          obtain ⟨⟨fn, ft, fi, fx⟩, sE⟩ := F
          dsimp only at HSUCF lF
          have HF := hid hF
          clear hF HRELF hsb2
          have ceq : ∀ n, (wi.drewN n).cell? ⟨ge, 2, none⟩ = some (.slice fa facc.length fc) := fun n => Ext.cellS ((Ext.refl wi).drewN n) ce2
          go_wp2_with fail
          go_region_law (first | ((with_reducible refine at_step_append ?_); go_must (refine step_appFld rfl _ _ rfl (ge + 1) (.slice fa facc.length fc) facc rfl (HO5.out.ext (by (· repeat (first | (with_reducible assumption) | exact Ext.refl _ | refine Ext.alloc ?_ _ | refine Ext.drew ?_ | refine Ext.drewN ?_ _ | (apply Ext.snart; (with_reducible assumption)))))) (fn, ft, fi, fx) (by dsimp only; omega) lF.2.2.2 (by dsimp only; omega) _ rfl (heap_alloc_new _ _) (by omega) (by simp; omega) ?_; intro v6 w6 k1 k2 k3; have hn6 : ∀ b, (Value.slice fa facc.length fc).ownBlock = some b → ge + 1 ≤ b := (fun b hb => (HO5.out.lt b hb).1); have hre6 := (k2.block ge (Nat.lt_of_lt_of_le (show ge < w5.heap.size by omega) (Ext.size (by (· repeat (first | (with_reducible assumption) | exact Ext.refl _ | refine Ext.alloc ?_ _ | refine Ext.drew ?_ | refine Ext.drewN ?_ _ | (apply Ext.snart; (with_reducible assumption))))))) (fun e => by have := hn6 ge e.symm; omega)).trans ((Below.block (show Ext w5 _ by (· repeat (first | (with_reducible assumption) | exact Ext.refl _ | refine Ext.alloc ?_ _ | refine Ext.drew ?_ | refine Ext.drewN ?_ _ | (apply Ext.snart; (with_reducible assumption))))) ge (by omega)).trans HR5.out); have f6 := frozen_blk hre6 2; have c6 := (cell_of_row _ _ _ _ _ _ hre6 : w6.cell? ⟨ge, 2, none⟩ = _).trans rfl; obtain ⟨fa6, fc6, rfl⟩ := k1.slice; have HO6 := hid k1; have HR6 := hid hre6; have HKW6 := hid (HKW5.out.trans (((show Ext w5 _ by (· repeat (first | (with_reducible assumption) | exact Ext.refl _ | refine Ext.alloc ?_ _ | refine Ext.drew ?_ | refine Ext.drewN ?_ _ | (apply Ext.snart; (with_reducible assumption))))).keep _).trans ((keep_grown k2).mono (fun k hk _ e => by have := hn6 k e.symm; omega)))); have HC6 := hid (CurT.keep (CurT.ext HC5.out (show Ext w5 _ by (· repeat (first | (with_reducible assumption) | exact Ext.refl _ | refine Ext.alloc ?_ _ | refine Ext.drew ?_ | refine Ext.drewN ?_ _ | (apply Ext.snart; (with_reducible assumption)))))) (keep_grown k2) (fun e => by have := hn6 g e.symm; omega) (fun k hk e => by have := hn6 k e.symm; omega)); have hz6 := Nat.lt_of_lt_of_le (Nat.lt_of_lt_of_le (show ge < w5.heap.size by omega) (Ext.size (show Ext w5 _ by (· repeat (first | (with_reducible assumption) | exact Ext.refl _ | refine Ext.alloc ?_ _ | refine Ext.drew ?_ | refine Ext.drewN ?_ _ | (apply Ext.snart; (with_reducible assumption))))))) k2.size; clear k1 k2 k3 hre6)) | (go_simp; go_at_call 65; go_must (refine (field_any _ g w.heap.size sti (HCI.out.ext (by (· repeat (first | (with_reducible assumption) | exact Ext.refl _ | refine Ext.alloc ?_ _ | refine Ext.drew ?_ | refine Ext.drewN ?_ _ | (apply Ext.snart; (with_reducible assumption)))))) (by omega)).mono ?_; unfold FldEnd; rw [HF.out]; rintro e w5 ⟨rfl, HC5, hk5⟩; have HC5 := hid HC5; have HKW5 := hid (HKI.out.trans (((show Ext wi _ by (· repeat (first | (with_reducible assumption) | exact Ext.refl _ | refine Ext.alloc ?_ _ | refine Ext.drew ?_ | refine Ext.drewN ?_ _ | (apply Ext.snart; (with_reducible assumption))))).keep _).trans (hk5.mono (fun k hk _ => hk.1)))); have HO5 := hid (OwnS.kept (OwnS.ext HOF.out (by (· repeat (first | (with_reducible assumption) | exact Ext.refl _ | refine Ext.alloc ?_ _ | refine Ext.drew ?_ | refine Ext.drewN ?_ _ | (apply Ext.snart; (with_reducible assumption)))))) (hk5.mono (fun k hk _ => by rcases hk with hk | hk; exact hk.elim; have := (HOF.out.lt k hk).1; omega))); have HR5 := hid ((hk5.block ge (by show ge ≠ g; omega) (Nat.lt_of_lt_of_le hgei (Ext.size (by (· repeat (first | (with_reducible assumption) | exact Ext.refl _ | refine Ext.alloc ?_ _ | refine Ext.drew ?_ | refine Ext.drewN ?_ _ | (apply Ext.snart; (with_reducible assumption)))))))).trans ((Below.block (show Ext wi _ by (· repeat (first | (with_reducible assumption) | exact Ext.refl _ | refine Ext.alloc ?_ _ | refine Ext.drew ?_ | refine Ext.drewN ?_ _ | (apply Ext.snart; (with_reducible assumption))))) ge hgei).trans HREI.out)); have hz5 := Nat.le_trans (Ext.size (show Ext wi _ by (· repeat (first | (with_reducible assumption) | exact Ext.refl _ | refine Ext.alloc ?_ _ | refine Ext.drew ?_ | refine Ext.drewN ?_ _ | (apply Ext.snart; (with_reducible assumption)))))) hk5.size; have c5 := (cell_of_row _ _ _ _ _ _ HR5.out : w5.cell? ⟨ge, 2, none⟩ = _).trans rfl; have c5a := ((Ext.refl w5).alloc (.cells #[.string fn, .bool ft, .int .i64 fi, .string fx] 108)).cellS c5; have ne5 : ¬ w5.heap.size = ge := (by omega); have ne5' : ¬ ge = w5.heap.size := (by omega); clear hk5)))
          all_goals
            go_wp2_with fail
            go_roundw
            case rel =>
              refine ⟨m2, sE, facc ++ [(fn, ft, fi, fx)], _, by go_num, HSUCF.out.symm, by rw [List.length_append, List.length_singleton]; omega, by omega, HC6.out.keep ((Keep.refl (fun k => k ≠ ge) w6).setCell (by simp) _) (by omega) (fun k hk => by omega), by rw [set_blk HR6.out]; rfl, ?_, HKW6.out.trans ((Keep.refl (fun k => k ≠ g ∧ k < ge) w6).setCell (by simp) _), by simpa [World.setCell] using hz6⟩
              have h6 := HO6.out.kept ((Keep.refl (fun k => False ∨ (Value.slice fa6 (facc ++ [(fn, ft, fi, fx)]).length fc6).ownBlock = some k) w6).setCell (p := ⟨ge, 2, none⟩) (fun e => by rcases e with e | e; exact e; have := (HO6.out.lt ge e).1; omega) (.slice fa6 (facc.length + 1) fc6))
              rw [List.length_append, List.length_singleton] at h6
              exact h6
            case measure => simp [intOf]
        · have hRe := HRELF.out.symm.trans (accF_end m2 sti facc hgo2)
          simp only [Prod.mk.injEq] at hRe
          obtain ⟨hR1, hR2⟩ := hRe
          subst hR1 hR2
          have hSa : ∀ k, (Value.slice ea acc.length ec).ownBlock = some k → ¬ S k ∧ gx + 1 ≤ k ∧ k < wo.heap.size := fun k hk => by
            have h1 := HOWN.out.lt k hk
            obtain ⟨_, _, _, h2, _⟩ := HOWN.out
            exact ⟨h2 k hk, h1.1, h1.2⟩
          have HSA := hid hSa
          have HFB := hid (fun k hk => (HOF.out.lt k hk : ge + 1 ≤ k ∧ k < wi.heap.size))
          have hrxi := (HKI.out.block gx ⟨by omega, by omega⟩ hgxl).trans HRX.out
          have hrzi := (HKI.out.block w.heap.size ⟨by omega, by omega⟩ (by omega)).trans HRZ.out
          have HRXI := hid hrxi
          have HRZI := hid hrzi
          have cx3 : wi.cell? ⟨gx, 3, none⟩ = some (.slice ea acc.length ec) := (cell_of_row _ _ _ _ _ _ hrxi).trans rfl
          have hxi : Ext wi (wi.alloc (.cells #[.string t, .int .i64 (vn : Int), .slice fa FSz.length fc] 46)) := (Ext.refl wi).alloc _
          have HXI := hid hxi
          have HOW := hid (show OwnS rE 46 (wi.alloc (.cells #[.string t, .int .i64 (vn : Int), .slice fa FSz.length fc] 46)) (gx + 1) (fun k => S k ∨ (Value.slice fa FSz.length fc).ownBlock = some k) (.slice ea acc.length ec) acc from by
            have h1 := HOWN.out.kept (HKI.out.mono (fun k hk hl => ⟨by rcases hk with hk | hk; have := (HSS.out k hk).1; omega; have := (HSA.out k hk).2.1; omega, by omega⟩))
            exact (h1.widen (fun k hk _ => .inl hk) (fun k hk e => by rcases e with e | e; exact (HSA.out k hk).1 e; have := (HFB.out k e).1; have := (HSA.out k hk).2.2; omega)).ext hxi)
          have HRF := hid (show RdS rF (wi.alloc (.cells #[.string t, .int .i64 (vn : Int), .slice fa FSz.length fc] 46)) (fun k => S k ∨ (Value.slice fa FSz.length fc).ownBlock = some k) (.slice fa FSz.length fc) FSz from (HOF.out.rd.ext hxi).mono (fun k hk _ => by rcases hk with hk | hk; exact hk.elim; exact .inr hk))
          have hzi : ge < wi.heap.size := hgei
          clear hSa hrxi hrzi hxi HRELF
          have hex : (0 < m2 ∧ sD.2 = true) ∨ m2 = 0 := by
            by_cases h0 : m2 = 0
            · exact .inr h0
            · left; refine ⟨by omega, ?_⟩
              cases h : sD.2
              · exact absurd ⟨by omega, h⟩ hgo2
              · rfl
          clear hgo2
          rcases hex with ⟨hm2, hb2⟩ | rfl
          · rw [hb2] at cbad
            go_wp2_with (at_builtin; go_must (refine wl_appEvt rfl _ _ rfl (gx + 1) _ (.slice ea acc.length ec) acc rfl HOW.out (t, (vn : Int), FSz) (.slice fa FSz.length fc) (by dsimp only; omega) (by dsimp only; omega) HRF.out rfl wi.heap.size rfl (heap_alloc_new _ _) (fun k hk => by rcases hk with hk | hk; have := (HSS.out k hk).2; simp; omega; have := (HFB.out k hk).2; simp; omega) (by omega) (by simp; omega) ?_; intro v9 w9 k1 k2 k3; have hn9 : ∀ b, (Value.slice ea acc.length ec).ownBlock = some b → gx + 1 ≤ b := (fun b hb => (HSA.out b hb).2.1); have hr9 := (k2.block gx (by simp; omega) (fun e => by have := hn9 gx e.symm; omega)).trans ((Below.block HXI.out gx (by omega)).trans HRXI.out); have f9 := frozen_blk hr9 3; have c9 := (cell_of_row _ _ _ _ _ _ hr9 : w9.cell? ⟨gx, 3, none⟩ = _).trans rfl; obtain ⟨va, vc, rfl⟩ := k1.slice; have HO9 := hid k1; have HR9 := hid hr9; have HG9 := hid k2; clear k1 k2 k3 hr9))
            go_roundw
            case rel =>
              have hn9' : ∀ b, (Value.slice ea acc.length ec).ownBlock = some b → gx + 1 ≤ b := fun b hb => (HSA.out b hb).2.1
              have hz9 := HG9.out.size
              simp only [heap_alloc_size] at hz9
              have hl9 : ∀ k, (S k ∨ (Value.slice fa FSz.length fc).ownBlock = some k) → gx < k ∧ k < w9.heap.size := fun k hk => by
                rcases hk with hk | hk
                · have := HSS.out k hk; exact ⟨this.1, by omega⟩
                · have := HFB.out k hk; exact ⟨by omega, by omega⟩
              have hke : Keep (fun k => k ≠ gx) w9 (w9.setCell ⟨gx, 3, none⟩ (.slice va (acc.length + 1) vc)) := (Keep.refl _ w9).setCell (by simp) _
              refine ⟨m, sD, acc ++ [(t, (vn : Int), FSz)], _, fun k => S k ∨ (Value.slice fa FSz.length fc).ownBlock = some k, by go_num, HSUC.out.symm, by rw [List.length_append, List.length_singleton]; omega, hstil, ?_, by rw [set_blk HR9.out]; rfl, ?_, ?_, fun k hk => by have := hl9 k hk; simp [World.setCell]; exact this, by simp [World.setCell]; omega, ?_⟩
              · exact ((HCI.out.ext HXI.out).keep (keep_grown HG9.out) (fun e => by have := hn9' g e.symm; omega) (fun k hk e => by have := hn9' k e.symm; omega)).keep hke (by omega) (fun k hk => by omega)
              · rw [hke.block w.heap.size (by show w.heap.size ≠ gx; omega) (by omega), HG9.out.block w.heap.size (by simp; omega) (fun e => by have := hn9' _ e.symm; omega), Below.block HXI.out _ (by omega)]
                exact HRZI.out
              · have h6 := HO9.out.kept (hke.mono (fun k hk hl => by rcases hk with hk | hk; have := (hl9 k hk).1; show k ≠ gx; omega; have := (HO9.out.lt k hk).1; show k ≠ gx; omega))
                rw [List.length_append, List.length_singleton] at h6
                exact h6
              · have x1 : Ext w wi := Below.trans HX.out (HKI.out.below w.heap.size (by omega) (fun k hk => ⟨by omega, by omega⟩))
                exact ((x1.trans HXI.out).grown HG9.out (fun k hk => by have := hn9' k hk; omega)).setCell (by show w.heap.size ≤ gx; omega) _
            case measure => simp [intOf]
          · skip
            go_wp2_with (at_builtin; go_must (refine wl_appEvt rfl _ _ rfl (gx + 1) _ (.slice ea acc.length ec) acc rfl HOW.out (t, (vn : Int), FSz) (.slice fa FSz.length fc) (by dsimp only; omega) (by dsimp only; omega) HRF.out rfl wi.heap.size rfl (heap_alloc_new _ _) (fun k hk => by rcases hk with hk | hk; have := (HSS.out k hk).2; simp; omega; have := (HFB.out k hk).2; simp; omega) (by omega) (by simp; omega) ?_; intro v9 w9 k1 k2 k3; have hn9 : ∀ b, (Value.slice ea acc.length ec).ownBlock = some b → gx + 1 ≤ b := (fun b hb => (HSA.out b hb).2.1); have hr9 := (k2.block gx (by simp; omega) (fun e => by have := hn9 gx e.symm; omega)).trans ((Below.block HXI.out gx (by omega)).trans HRXI.out); have f9 := frozen_blk hr9 3; have c9 := (cell_of_row _ _ _ _ _ _ hr9 : w9.cell? ⟨gx, 3, none⟩ = _).trans rfl; obtain ⟨va, vc, rfl⟩ := k1.slice; have HO9 := hid k1; have HR9 := hid hr9; have HG9 := hid k2; clear k1 k2 k3 hr9))
            go_roundw
            case rel =>
              have hn9' : ∀ b, (Value.slice ea acc.length ec).ownBlock = some b → gx + 1 ≤ b := fun b hb => (HSA.out b hb).2.1
              have hz9 := HG9.out.size
              simp only [heap_alloc_size] at hz9
              have hl9 : ∀ k, (S k ∨ (Value.slice fa FSz.length fc).ownBlock = some k) → gx < k ∧ k < w9.heap.size := fun k hk => by
                rcases hk with hk | hk
                · have := HSS.out k hk; exact ⟨this.1, by omega⟩
                · have := HFB.out k hk; exact ⟨by omega, by omega⟩
              have hke : Keep (fun k => k ≠ gx) w9 (w9.setCell ⟨gx, 3, none⟩ (.slice va (acc.length + 1) vc)) := (Keep.refl _ w9).setCell (by simp) _
              refine ⟨m, sD, acc ++ [(t, (vn : Int), FSz)], _, fun k => S k ∨ (Value.slice fa FSz.length fc).ownBlock = some k, by go_num, HSUC.out.symm, by rw [List.length_append, List.length_singleton]; omega, hstil, ?_, by rw [set_blk HR9.out]; rfl, ?_, ?_, fun k hk => by have := hl9 k hk; simp [World.setCell]; exact this, by simp [World.setCell]; omega, ?_⟩
              · exact ((HCI.out.ext HXI.out).keep (keep_grown HG9.out) (fun e => by have := hn9' g e.symm; omega) (fun k hk e => by have := hn9' k e.symm; omega)).keep hke (by omega) (fun k hk => by omega)
              · rw [hke.block w.heap.size (by show w.heap.size ≠ gx; omega) (by omega), HG9.out.block w.heap.size (by simp; omega) (fun e => by have := hn9' _ e.symm; omega), Below.block HXI.out _ (by omega)]
                exact HRZI.out
              · have h6 := HO9.out.kept (hke.mono (fun k hk hl => by rcases hk with hk | hk; have := (hl9 k hk).1; show k ≠ gx; omega; have := (HO9.out.lt k hk).1; show k ≠ gx; omega))
                rw [List.length_append, List.length_singleton] at h6
                exact h6
              · have x1 : Ext w wi := Below.trans HX.out (HKI.out.below w.heap.size (by omega) (fun k hk => ⟨by omega, by omega⟩))
                exact ((x1.trans HXI.out).grown HG9.out (fun k hk => by have := hn9' k hk; omega)).setCell (by show w.heap.size ≤ gx; omega) _
            case measure => simp [intOf]
    · have hRe := HREL.out.symm.trans (accE_end m st acc hgo)
      simp only [Prod.mk.injEq] at hRe
      obtain ⟨hR1, hR2⟩ := hRe
      subst hR1 hR2
      have cx0 : wo.cell? ⟨gx, 0, none⟩ = some (.string s0) := (cell_of_row _ _ _ _ _ _ HRX.out).trans rfl
      have cx1 : wo.cell? ⟨gx, 1, none⟩ = some (.string k0) := (cell_of_row _ _ _ _ _ _ HRX.out).trans rfl
      have cx2 : wo.cell? ⟨gx, 2, none⟩ = some (.int .i64 (f0 : Int)) := (cell_of_row _ _ _ _ _ _ HRX.out).trans rfl
      have nx1 : ¬ gx = w.heap.size := by omega
      have nx2 : ¬ w.heap.size = gx := by omega
      have HBD := hid (show batF l = if STE.2 = true ∨ putB (s0, k0, (f0 : Int), ES) ≠ (l, 0) then ((⟨#[]⟩, ⟨#[]⟩, 0, []), 11) else ((s0, k0, (f0 : Int), ES), 0) by unfold batF; rw [HRB.out])
      obtain ⟨PP, hPP⟩ : ∃ PP, putB (s0, k0, (f0 : Int), ES) = PP := ⟨_, rfl⟩
      rw [hPP] at HBD
      obtain ⟨B, pc⟩ := PP
      clear HREL HRB hfz
      by_cases hb : STE.2 = true
      · rw [hb] at cbad
        have HBF := hid (HBD.out.trans (if_pos (.inl hb)))
        have hex : m = 0 ∨ 0 < m := by omega
        clear hgo hb HBD
        by_cases hp0 : pc = 0
        · subst hp0
          have HP0 := hid (show (putB (s0, k0, (f0 : Int), ES)).2 = 0 by rw [hPP])
          have HP1 := hid (show (putB (s0, k0, (f0 : Int), ES)).1 = B by rw [hPP])
          clear hPP
          rcases hex with rfl | hm
          all_goals
            go_wp2_with (first | (go_at_call 27; go_must (refine (PutBatch_any wo _ (.slice none 0 0) [] (RdB.nil _) (by simp) s0 k0 (f0 : Int) (.slice ea ES.length ec) ES (by omega) (by omega) ⟨by omega, by omega⟩ HOWN.out.rd).mono ?_; intro e w9 hp; obtain ⟨h1, -, hx9⟩ := hp; obtain ⟨v9, rfl, ho9⟩ := h1 HP0.out; rw [HP1.out, List.nil_append] at ho9; obtain ⟨a9, c9, rfl⟩ := OwnB.slice ho9; have HO9 := hid (rdB_own ho9); clear h1 ho9; have hx9 := Ext.of hx9; have HX9 := hid hx9; have hrx9 := (Below.block hx9 gx hgxl).trans HRX.out; have hrz9 := (Below.block hx9 w.heap.size (by omega)).trans HRZ.out; have fz0 := frozen_blk hrz9 0; have fz1 := frozen_blk hrz9 1; have fz2 := frozen_blk hrz9 2; have fz3 := frozen_blk hrz9 3; have b9 := Ext.cellS hx9 cbad; have x0 := Ext.cellS hx9 cx0; have x1 := Ext.cellS hx9 cx1; have x2 := Ext.cellS hx9 cx2; have x3 := Ext.cellS hx9 cx3; have z0 := (cell_of_row _ _ _ _ _ _ hrz9 : w9.cell? ⟨w.heap.size, 0, none⟩ = _).trans rfl; have z1 := (cell_of_row _ _ _ _ _ _ hrz9 : w9.cell? ⟨w.heap.size, 1, none⟩ = _).trans rfl; have z2 := (cell_of_row _ _ _ _ _ _ hrz9 : w9.cell? ⟨w.heap.size, 2, none⟩ = _).trans rfl; have z3 := (cell_of_row _ _ _ _ _ _ hrz9 : w9.cell? ⟨w.heap.size, 3, none⟩ = _).trans rfl; have HRZ9 := hid hrz9; clear hrx9 hrz9 hx9)))
            obtain ⟨q0, q1, q2, q3⟩ := four_cells (v0 := .string ⟨#[]⟩) (v1 := .string ⟨#[]⟩) (v2 := .int .i64 0) (v3 := .slice none 0 0) HRZ9.out
            refine bodyPost_ret (v := .tuple #[.agg #[.string ⟨#[]⟩, .string ⟨#[]⟩, .int .i64 0, .slice none 0 0], .int .i64 11]) (by simp [results, Try.results32, go_sem, q0, q1, q2, q3]) rfl ?_
            refine ⟨fun _ => rfl, fun h => absurd h (by rw [HBF.out]; decide), ?_⟩
            exact Below.trans (HX.out.trans HX9.out) below_four
        · have HPN := hid (show (putB (s0, k0, (f0 : Int), ES)).2 ≠ 0 by rw [hPP]; exact hp0)
          have HPC := hid (show (putB (s0, k0, (f0 : Int), ES)).2 = pc by rw [hPP])
          have tp : ((pc : Int) == 0) = false := by rw [beq_eq_false_iff_ne]; omega
          clear hPP
          rcases hex with rfl | hm
          all_goals
            go_wp2_with (first | (go_at_call 27; go_must (refine (PutBatch_any wo _ (.slice none 0 0) [] (RdB.nil _) (by simp) s0 k0 (f0 : Int) (.slice ea ES.length ec) ES (by omega) (by omega) ⟨by omega, by omega⟩ HOWN.out.rd).mono ?_; intro e w9 hp; obtain ⟨-, h2, hx9⟩ := hp; obtain rfl := h2 HPN.out; rw [HPC.out]; clear h2; have hx9 := Ext.of hx9; have HX9 := hid hx9; have hrx9 := (Below.block hx9 gx hgxl).trans HRX.out; have hrz9 := (Below.block hx9 w.heap.size (by omega)).trans HRZ.out; have fz0 := frozen_blk hrz9 0; have fz1 := frozen_blk hrz9 1; have fz2 := frozen_blk hrz9 2; have fz3 := frozen_blk hrz9 3; have b9 := Ext.cellS hx9 cbad; have x0 := Ext.cellS hx9 cx0; have x1 := Ext.cellS hx9 cx1; have x2 := Ext.cellS hx9 cx2; have x3 := Ext.cellS hx9 cx3; have z0 := (cell_of_row _ _ _ _ _ _ hrz9 : w9.cell? ⟨w.heap.size, 0, none⟩ = _).trans rfl; have z1 := (cell_of_row _ _ _ _ _ _ hrz9 : w9.cell? ⟨w.heap.size, 1, none⟩ = _).trans rfl; have z2 := (cell_of_row _ _ _ _ _ _ hrz9 : w9.cell? ⟨w.heap.size, 2, none⟩ = _).trans rfl; have z3 := (cell_of_row _ _ _ _ _ _ hrz9 : w9.cell? ⟨w.heap.size, 3, none⟩ = _).trans rfl; have HRZ9 := hid hrz9; clear hrx9 hrz9 hx9)))
            obtain ⟨q0, q1, q2, q3⟩ := four_cells (v0 := .string ⟨#[]⟩) (v1 := .string ⟨#[]⟩) (v2 := .int .i64 0) (v3 := .slice none 0 0) HRZ9.out
            refine bodyPost_ret (v := .tuple #[.agg #[.string ⟨#[]⟩, .string ⟨#[]⟩, .int .i64 0, .slice none 0 0], .int .i64 11]) (by simp [results, Try.results32, go_sem, q0, q1, q2, q3]) rfl ?_
            refine ⟨fun _ => rfl, fun h => absurd h (by rw [HBF.out]; decide), ?_⟩
            exact Below.trans (HX.out.trans HX9.out) below_four
      · have hbf : STE.2 = false := by simpa using hb
        have hm0 : m = 0 := by
          by_cases h : m = 0
          · exact h
          · exact absurd ⟨by omega, hbf⟩ hgo
        subst hm0
        rw [hbf] at cbad
        by_cases hp0 : pc = 0
        · subst hp0
          have HP0 := hid (show (putB (s0, k0, (f0 : Int), ES)).2 = 0 by rw [hPP])
          have HP1 := hid (show (putB (s0, k0, (f0 : Int), ES)).1 = B by rw [hPP])
          by_cases hq : B = l
          · have HBF := hid (HBD.out.trans (if_neg (by rw [hq]; simp [hbf])))
            have HQ := hid (decide_eq_true hq)
            clear hPP hb hbf hgo hq HBD
            go_wp2_with (first | (go_at_call 27; go_must (refine (PutBatch_any wo _ (.slice none 0 0) [] (RdB.nil _) (by simp) s0 k0 (f0 : Int) (.slice ea ES.length ec) ES (by omega) (by omega) ⟨by omega, by omega⟩ HOWN.out.rd).mono ?_; intro e w9 hp; obtain ⟨h1, -, hx9⟩ := hp; obtain ⟨v9, rfl, ho9⟩ := h1 HP0.out; rw [HP1.out, List.nil_append] at ho9; obtain ⟨a9, c9, rfl⟩ := OwnB.slice ho9; have HO9 := hid (rdB_own ho9); clear h1 ho9; have hx9 := Ext.of hx9; have HX9 := hid hx9; have hrx9 := (Below.block hx9 gx hgxl).trans HRX.out; have hrz9 := (Below.block hx9 w.heap.size (by omega)).trans HRZ.out; have fz0 := frozen_blk hrz9 0; have fz1 := frozen_blk hrz9 1; have fz2 := frozen_blk hrz9 2; have fz3 := frozen_blk hrz9 3; have b9 := Ext.cellS hx9 cbad; have x0 := Ext.cellS hx9 cx0; have x1 := Ext.cellS hx9 cx1; have x2 := Ext.cellS hx9 cx2; have x3 := Ext.cellS hx9 cx3; have z0 := (cell_of_row _ _ _ _ _ _ hrz9 : w9.cell? ⟨w.heap.size, 0, none⟩ = _).trans rfl; have z1 := (cell_of_row _ _ _ _ _ _ hrz9 : w9.cell? ⟨w.heap.size, 1, none⟩ = _).trans rfl; have z2 := (cell_of_row _ _ _ _ _ _ hrz9 : w9.cell? ⟨w.heap.size, 2, none⟩ = _).trans rfl; have z3 := (cell_of_row _ _ _ _ _ _ hrz9 : w9.cell? ⟨w.heap.size, 3, none⟩ = _).trans rfl; have HRZ9 := hid hrz9; clear hrx9 hrz9 hx9)) | (go_at_call 66; go_must (refine (Equal_any w9 _ _ B l HO9.out (HV.out.ext (HX.out.trans HX9.out))).mono ?_; rw [HQ.out]; rintro e w' ⟨rfl, rfl⟩)))
            obtain ⟨q0, q1, q2, q3⟩ := four_cells (v0 := .string s0) (v1 := .string k0) (v2 := .int .i64 (f0 : Int)) (v3 := .slice ea ES.length ec) HRZ9.out
            refine bodyPost_ret (v := .tuple #[.agg #[.string s0, .string k0, .int .i64 (f0 : Int), .slice ea ES.length ec], .int .i64 0]) (by simp [results, Try.results32, go_sem, q0, q1, q2, q3]) rfl ?_
            refine ⟨fun h => absurd (by rw [HBF.out]) h, fun _ => ?_, Below.trans (HX.out.trans HX9.out) below_four⟩
            rw [HBF.out]
            refine ⟨.slice ea ES.length ec, rfl, ?_⟩
            refine ((HOWN.out.rd.ext HX9.out).kept (keep_four (Keep.refl _ w9) (fun e => ?_))).mono (fun k hk _ => ?_)
            · rcases e with e | e
              · have := (HSS.out _ e).1; omega
              · have := (HOWN.out.lt _ e).1; omega
            · rcases hk with hk | hk
              · have := (HSS.out _ hk).1; omega
              · have := (HOWN.out.lt _ hk).1; omega
          · have HBF := hid (HBD.out.trans (if_pos (.inr (by simp [hq]))))
            have HQ := hid (decide_eq_false hq)
            clear hPP hb hbf hgo hq HBD
            go_wp2_with (first | (go_at_call 27; go_must (refine (PutBatch_any wo _ (.slice none 0 0) [] (RdB.nil _) (by simp) s0 k0 (f0 : Int) (.slice ea ES.length ec) ES (by omega) (by omega) ⟨by omega, by omega⟩ HOWN.out.rd).mono ?_; intro e w9 hp; obtain ⟨h1, -, hx9⟩ := hp; obtain ⟨v9, rfl, ho9⟩ := h1 HP0.out; rw [HP1.out, List.nil_append] at ho9; obtain ⟨a9, c9, rfl⟩ := OwnB.slice ho9; have HO9 := hid (rdB_own ho9); clear h1 ho9; have hx9 := Ext.of hx9; have HX9 := hid hx9; have hrx9 := (Below.block hx9 gx hgxl).trans HRX.out; have hrz9 := (Below.block hx9 w.heap.size (by omega)).trans HRZ.out; have fz0 := frozen_blk hrz9 0; have fz1 := frozen_blk hrz9 1; have fz2 := frozen_blk hrz9 2; have fz3 := frozen_blk hrz9 3; have b9 := Ext.cellS hx9 cbad; have x0 := Ext.cellS hx9 cx0; have x1 := Ext.cellS hx9 cx1; have x2 := Ext.cellS hx9 cx2; have x3 := Ext.cellS hx9 cx3; have z0 := (cell_of_row _ _ _ _ _ _ hrz9 : w9.cell? ⟨w.heap.size, 0, none⟩ = _).trans rfl; have z1 := (cell_of_row _ _ _ _ _ _ hrz9 : w9.cell? ⟨w.heap.size, 1, none⟩ = _).trans rfl; have z2 := (cell_of_row _ _ _ _ _ _ hrz9 : w9.cell? ⟨w.heap.size, 2, none⟩ = _).trans rfl; have z3 := (cell_of_row _ _ _ _ _ _ hrz9 : w9.cell? ⟨w.heap.size, 3, none⟩ = _).trans rfl; have HRZ9 := hid hrz9; clear hrx9 hrz9 hx9)) | (go_at_call 66; go_must (refine (Equal_any w9 _ _ B l HO9.out (HV.out.ext (HX.out.trans HX9.out))).mono ?_; rw [HQ.out]; rintro e w' ⟨rfl, rfl⟩)))
            obtain ⟨q0, q1, q2, q3⟩ := four_cells (v0 := .string ⟨#[]⟩) (v1 := .string ⟨#[]⟩) (v2 := .int .i64 0) (v3 := .slice none 0 0) HRZ9.out
            refine bodyPost_ret (v := .tuple #[.agg #[.string ⟨#[]⟩, .string ⟨#[]⟩, .int .i64 0, .slice none 0 0], .int .i64 11]) (by simp [results, Try.results32, go_sem, q0, q1, q2, q3]) rfl ?_
            refine ⟨fun _ => rfl, fun h => absurd h (by rw [HBF.out]; decide), ?_⟩
            exact Below.trans (HX.out.trans HX9.out) below_four
        · have HBF := hid (HBD.out.trans (if_pos (.inr (by simp [hp0]))))
          have HPN := hid (show (putB (s0, k0, (f0 : Int), ES)).2 ≠ 0 by rw [hPP]; exact hp0)
          have HPC := hid (show (putB (s0, k0, (f0 : Int), ES)).2 = pc by rw [hPP])
          have tp : ((pc : Int) == 0) = false := by rw [beq_eq_false_iff_ne]; omega
          clear hPP hb hbf hgo HBD
          go_wp2_with (first | (go_at_call 27; go_must (refine (PutBatch_any wo _ (.slice none 0 0) [] (RdB.nil _) (by simp) s0 k0 (f0 : Int) (.slice ea ES.length ec) ES (by omega) (by omega) ⟨by omega, by omega⟩ HOWN.out.rd).mono ?_; intro e w9 hp; obtain ⟨-, h2, hx9⟩ := hp; obtain rfl := h2 HPN.out; rw [HPC.out]; clear h2; have hx9 := Ext.of hx9; have HX9 := hid hx9; have hrx9 := (Below.block hx9 gx hgxl).trans HRX.out; have hrz9 := (Below.block hx9 w.heap.size (by omega)).trans HRZ.out; have fz0 := frozen_blk hrz9 0; have fz1 := frozen_blk hrz9 1; have fz2 := frozen_blk hrz9 2; have fz3 := frozen_blk hrz9 3; have b9 := Ext.cellS hx9 cbad; have x0 := Ext.cellS hx9 cx0; have x1 := Ext.cellS hx9 cx1; have x2 := Ext.cellS hx9 cx2; have x3 := Ext.cellS hx9 cx3; have z0 := (cell_of_row _ _ _ _ _ _ hrz9 : w9.cell? ⟨w.heap.size, 0, none⟩ = _).trans rfl; have z1 := (cell_of_row _ _ _ _ _ _ hrz9 : w9.cell? ⟨w.heap.size, 1, none⟩ = _).trans rfl; have z2 := (cell_of_row _ _ _ _ _ _ hrz9 : w9.cell? ⟨w.heap.size, 2, none⟩ = _).trans rfl; have z3 := (cell_of_row _ _ _ _ _ _ hrz9 : w9.cell? ⟨w.heap.size, 3, none⟩ = _).trans rfl; have HRZ9 := hid hrz9; clear hrx9 hrz9 hx9)))
          obtain ⟨q0, q1, q2, q3⟩ := four_cells (v0 := .string ⟨#[]⟩) (v1 := .string ⟨#[]⟩) (v2 := .int .i64 0) (v3 := .slice none 0 0) HRZ9.out
          refine bodyPost_ret (v := .tuple #[.agg #[.string ⟨#[]⟩, .string ⟨#[]⟩, .int .i64 0, .slice none 0 0], .int .i64 11]) (by simp [results, Try.results32, go_sem, q0, q1, q2, q3]) rfl ?_
          refine ⟨fun _ => rfl, fun h => absurd h (by rw [HBF.out]; decide), ?_⟩
          exact Below.trans (HX.out.trans HX9.out) below_four
end Go.Proofs.Ythobhkmphjnlaaa
