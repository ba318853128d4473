/- AllocApart, walked. -/
import Derived.Test.YtbpcgfplokkfpaaAlW
import Derived.Test.YtbpcgfplokkfpaaOpn5
import Derived.Test.YtbpcgfplokkfpaaPick
namespace Go.Proofs.Ytbpcgfplokkfpaa
open Go.RowKit
set_option linter.unusedVariables false
set_option linter.unusedSimpArgs false

theorem Keep.drewN {S : Nat → Prop} {a w : World} (h : Keep S a w) (n : Nat) : Keep S a (w.drewN n) := h.trans (Ext.keep ((Ext.refl w).drewN n) S)
/-- the map, and the law's own rows -/
structure ApI (w wr : World) (T : Nat → Prop) (g : Nat) (now last : List Bool) (v7 v8 : Value) : Prop where
  map : MapAt T wr g now last
  lo : ∀ k, T k → w.heap.size ≤ k
  up : ∀ k, T k → k < wr.heap.size
  r7 : OwnS rBo 4 wr w.heap.size (fun _ => False) v7 last
  r8 : OwnS rBo 4 wr w.heap.size (fun _ => False) v8 now
  n7 : ∀ k, v7.ownBlock = some k → ¬ T k
  n8 : ∀ k, v8.ownBlock = some k → ¬ T k
  n78 : ∀ k, v7.ownBlock = some k → v8.ownBlock ≠ some k
  ext : Ext w wr
section
variable {w wr w' : World} {T : Nat → Prop} {g : Nat} {now last now' last' : List Bool} {v7 v8 : Value}
theorem ApI.exts (h : ApI w wr T g now last v7 v8) (hx : Ext wr w') : ApI w w' T g now last v7 v8 :=
  ⟨h.map.ext hx, h.lo, fun k hk => Nat.lt_of_lt_of_le (h.up k hk) hx.size, h.r7.ext hx, h.r8.ext hx, h.n7, h.n8, h.n78, h.ext.trans hx⟩
theorem OwnS.past {α : Type} {r : Rdr α} {t : TypeId} {base : Nat} {v : Value} {xs : List α} (h : OwnS r t wr base (fun _ => False) v xs) (hk : Keep (fun k => ¬ T k) wr w') (hn : ∀ k, v.ownBlock = some k → ¬ T k) : OwnS r t w' base (fun _ => False) v xs :=
  h.kept (hk.mono fun k hk' _ => by rcases hk' with h | h; exact h.elim; exact hn k h)
theorem newer_not {k : Nat} (h : ¬ T k) (hl : k < wr.heap.size) : ¬ Newer T wr w' k := fun hn => by
  rcases hn with h1 | h1
  · exact h h1
  · omega
theorem ApI.start {w1 w2 : World} {N : Nat} (hm : MapAt (fun k => w1.heap.size ≤ k ∧ k < w2.heap.size) w2 g (List.replicate N false) (List.replicate N false)) (hx : Ext w w2) (h1 : w.heap.size ≤ w1.heap.size) (h2 : w1.heap.size ≤ w2.heap.size) (hN : N ≤ 512) :
    ApI w ((w2.alloc (.cells (falses N) 4)).alloc (.cells (falses N) 4)) (fun k => w1.heap.size ≤ k ∧ k < w2.heap.size) g (List.replicate N false) (List.replicate N false) (.slice (some ⟨w2.heap.size, 0, none⟩) N N) (.slice (some ⟨w2.heap.size + 1, 0, none⟩) N N) := by
  have r1 := heap_alloc_new w2 (.cells (falses N) 4)
  have r2 := heap_alloc_new (w2.alloc (.cells (falses N) 4)) (.cells (falses N) 4)
  rw [heap_alloc_sz] at r2
  have r1' := (Below.block ((Ext.refl (w2.alloc (.cells (falses N) 4))).alloc (.cells (falses N) 4)) w2.heap.size (by simp)).trans r1
  refine ⟨hm.ext (((Ext.refl w2).alloc _).alloc _), fun k hk => by omega, fun k hk => by simp only [heap_alloc_sz]; omega, falses_own r1' hN _ (by omega), falses_own r2 hN _ (by omega), fun k hk => ?_, fun k hk => ?_, fun k hk => ?_, (hx.alloc _).alloc _⟩
  all_goals
    simp only [Value.ownBlock, Option.map_some, Option.some.injEq, ne_eq] at hk ⊢
    omega
theorem ApI.both (h : ApI w wr T g now last v7 v8) : last.length = now.length ∧ now.length ≤ 512 := by
  obtain ⟨vn, vl, h1, h2, h3, h4, h5, -⟩ := h.map
  exact ⟨h4, h5⟩
/-- behind a call that turned the map -/
theorem ApI.step (h : ApI w wr T g now last v7 v8) {wa : World} (hx : Ext wr wa) (hm : MapAt (Newer T wa w') w' g now' last') (hk : Keep (fun k => ¬ T k) wa w') :
    MapAt (Newer T wa w') w' g now' last' ∧ (∀ k, Newer T wa w' k → w.heap.size ≤ k) ∧ (∀ k, Newer T wa w' k → k < w'.heap.size) ∧ OwnS rBo 4 w' w.heap.size (fun _ => False) v7 last ∧ OwnS rBo 4 w' w.heap.size (fun _ => False) v8 now ∧ (∀ k, v7.ownBlock = some k → ¬ Newer T wa w' k) ∧ (∀ k, v8.ownBlock = some k → ¬ Newer T wa w' k) ∧ Ext w w' := by
  have hs := hk.size
  have hs2 := hx.size
  refine ⟨hm, Newer.lo h.lo (h.ext.trans hx).size, fun k hk' => ?_, (h.r7.ext hx).past hk h.n7, (h.r8.ext hx).past hk h.n8, fun k hk' => newer_not (h.n7 k hk') (Nat.lt_of_lt_of_le (h.r7.lt k hk').2 hs2), fun k hk' => newer_not (h.n8 k hk') (Nat.lt_of_lt_of_le (h.r8.lt k hk').2 hs2), (h.ext.trans hx).keepT hk h.lo⟩
  rcases hk' with h1 | h1
  · have := h.up k h1; omega
  · exact h1.2
theorem OwnS.notOwn {α : Type} {r : Rdr α} {t : TypeId} {base : Nat} {v : Value} {xs : List α} {u : Value} (h : OwnS r t wr base (fun _ => False) v xs) (hk : Keep (fun j => ¬ u.ownBlock = some j) wr w') (hn : ∀ k, v.ownBlock = some k → u.ownBlock ≠ some k) : OwnS r t w' base (fun _ => False) v xs :=
  h.kept (hk.mono fun k hk' _ => by rcases hk' with h | h; exact h.elim; exact hn k h)
theorem flat_take_succ {rs : List (Nat × Nat)} {k a c : Nat} (h : rs[k]? = some (a, c)) : flat (rs.take (k + 1)) = flat (rs.take k) ++ List.range' a c := by
  have hlt : k < rs.length := (List.getElem?_eq_some_iff.1 h).1
  have hge : rs[k] = (a, c) := (List.getElem?_eq_some_iff.1 h).2
  rw [List.take_succ_eq_append_getElem hlt, hge, flat_append, flat_one]
end

set_option maxRecDepth 100000 in
set_option maxHeartbeats 8000000 in
theorem allocApart_walk (w : World) (a0 : Int) (h0 : -9223372036854775808 ≤ a0 ∧ a0 ≤ 9223372036854775807) (v : Value) (zs : List Call5) (rd : RdS rCall5 w (fun k => k < w.heap.size) v zs) :
    Calls Try.prog 4 #[.int .i64 a0, v] w fun e w' => e = .returned (.bool true) ∧ Below w.heap.size w w' := by
  have HV := hid rd
  obtain ⟨av, cv, rfl, hc1, hc2⟩ := rd.slice
  clear rd
  go_enter Try.func4, Try.ntmps4
  go_wp2_with fail
  refine (awake5_any _).mono ?_
  rintro e w1 ⟨rfl, hx1⟩
  go_wp2_with fail
  refine (Pick_any _ a0 513 h0 (by omega) (by omega)).mono ?_
  rintro e w1' ⟨rfl, rfl⟩
  have hN := pickF_lt a0 (513 : Int).toNat (by decide)
  generalize pickF a0 (513 : Int).toNat = N at hN ⊢
  have hN' : N ≤ 512 := by have : (513 : Int).toNat = 513 := rfl; omega
  clear hN
  go_wp2_with fail
  refine (NewM_ok w1 N hN').mono ?_
  rintro e w2 ⟨g, rfl, hm, hx2⟩
  have hmk := fun W => makeB N hN' W
  have HM := hid hm
  have HX2 := hid (hx1.trans hx2)
  have sx1 := hx1.size
  have sx2 := hx2.size
  clear hm hx1 hx2
  go_wp2_with fail
  have HS := hid (ApI.start HM.out HX2.out sx1 sx2 hN')
  clear hmk HM HX2 sx1 sx2
  obtain ⟨g8, hg8⟩ : ∃ g8, g8 = w2.heap.size + 1 := ⟨_, rfl⟩
  rw [← hg8] at HS ⊢
  clear hg8
  go_loopw [7, 9] (fun u7 u9 wr => ∃ (i : Nat) (T : Nat → Prop) (now last : List Bool), u9 = .int .i64 i ∧ i ≤ zs.length ∧ i ≤ 60 ∧ now.length = N ∧ ApI w wr T g now last u7 (.slice (some ⟨g8, 0, none⟩) N N)) (fun _ u9 _ => 60 - (intOf u9).toNat)
  case atStart => exact ⟨0, _, _, _, rfl, by omega, by omega, by simp, HS.out⟩
  case round =>
    clear HS
    obtain ⟨wo, rfl⟩ : ∃ wo : World, wo = wr := ⟨_, rfl⟩
    obtain ⟨i, T, now, last, rfl, hi, hi60, rfl, ha⟩ := hrel
    obtain ⟨a7, c7, rfl⟩ := ha.r7.slice
    have hlast := ha.both.1
    rw [hlast] at ha ⊢
    have HA := hid ha
    have HLAST := hid hlast
    clear ha hlast
    by_cases hlt : i < zs.length ∧ i < 60
    · obtain ⟨hlt, hlt2⟩ := hlt
      obtain ⟨gl, ol, cl, lv, e, hgl, hgs, d0, d1, d2, hz0, hz1, hrl⟩ := HV.out.atCall5 i hlt
      simp only [Value.slice.injEq] at e
      obtain ⟨rfl, -, rfl⟩ := e
      generalize zs[i] = z at d0 d1 d2 hz0 hz1 hrl
      obtain ⟨zk, zn, zl⟩ := z
      dsimp only at d0 d1 d2 hz0 hz1 hrl
      have e0 := HA.out.ext.cellS d0
      have e1 := HA.out.ext.cellS d1
      have hglw : gl < wo.heap.size := Nat.lt_of_lt_of_le hgl HA.out.ext.size
      clear d0 d1 d2 hrl hgs
      go_wp2_with fail
      refine (Pick_any _ zk 3 hz0 (by omega) (by omega)).mono ?_
      rintro e w' ⟨rfl, rfl⟩
      have hk := pickF_lt zk (3 : Int).toNat (by decide)
      generalize pickF zk (3 : Int).toNat = kk at hk ⊢
      have hk' : kk = 0 ∨ kk = 1 ∨ kk = 2 := by have : (3 : Int).toNat = 3 := rfl; omega
      clear hk e0
      rcases hk' with rfl | rfl | rfl
      · go_wp2_with fail
        refine (Pick_any _ zn 40 hz1 (by omega) (by omega)).mono ?_
        rintro e w' ⟨rfl, rfl⟩
        have hn := pickF_lt zn (40 : Int).toNat (by decide)
        generalize pickF zn (40 : Int).toNat = n at hn ⊢
        have hn40 : n < 40 := by have : (40 : Int).toNat = 40 := rfl; omega
        clear hn e1
        go_wp2_with fail
        refine (Free_any T _ g now last HA.out.map).mono ?_
        rintro e w1 ⟨rfl, hx1⟩
        have HA1 := hid (HA.out.exts hx1)
        have HW1 := hid hx1
        have hfl := free_len now last
        obtain ⟨fr, hfr⟩ : ∃ fr, fr = (freeIdx now last).length := ⟨_, rfl⟩
        rw [← hfr] at hfl ⊢
        have HFR := hid hfr
        have hfb : fr ≤ 512 := by have := HA.out.both.2; omega
        clear hx1 hfr
        by_cases hnf : n ≤ fr
        · have hnf' : (n : Int) ≤ (fr : Int) := by omega
          go_wp2_with fail
          refine (Take_ok T w1 g now last HA1.out.map n (by rw [← HFR.out]; exact hnf)).mono ?_
          rintro e w2 ⟨vr, rs, rfl, hc, hf, ho, hm2, hk2⟩
          obtain ⟨ar, cr, rfl⟩ := ho.slice
          have hrl : (rs.map runI).length = rs.length := List.length_map ..
          rw [hrl] at ho ⊢
          have HC := hid hc
          have HF := hid hf
          have HO := hid ho
          have HM2 := hid hm2
          have HK2 := hid hk2
          have HR7 := hid (HA1.out.r7.past hk2 HA1.out.n7)
          have HR8 := hid (HA1.out.r8.past hk2 HA1.out.n8)
          clear hc hf ho hm2 hk2 hrl
          go_wp2_with fail
          go_loopw [14, 15] (fun u14 u15 wr => ∃ k : Nat, u15 = .int .i64 k ∧ k ≤ rs.length ∧ u14 = .int .i64 ((flat (rs.take k)).length : Nat) ∧ OwnS rBo 4 wr w.heap.size (fun _ => False) (.slice (some ⟨g8, 0, none⟩) now.length now.length) (setAll now (flat (rs.take k))) ∧ Keep (fun j => ¬ (Value.slice (some ⟨g8, 0, none⟩) now.length now.length).ownBlock = some j) w2 wr) (fun _ u15 _ => rs.length - (intOf u15).toNat)
          case atStart => exact ⟨0, rfl, by omega, by simp [flat_nil], by simpa [flat_nil, setAll] using HR8.out, Keep.refl _ _⟩
          case round =>
            obtain ⟨wq, rfl⟩ : ∃ wq : World, wq = wr := ⟨_, rfl⟩
            obtain ⟨k, rfl, hk, rfl, h8, hkw⟩ := hrel
            have HH8 := hid h8
            have HKW := hid hkw
            have hlenk : (flat (rs.take k)).length ≤ 40 := by
              have h1 := flat_append (rs.take k) (rs.drop k)
              rw [List.take_append_drop, HF.out] at h1
              have h2 := congrArg List.length h1
              rw [List.length_append, List.length_take] at h2
              omega
            have hrl40 : rs.length ≤ 40 := by
              have h1 := canon_len rs HC.out.1
              rw [HF.out, List.length_take] at h1
              omega
            clear h8 hkw
            by_cases hkl : k < rs.length
            · obtain ⟨⟨ra, rc⟩, hrk⟩ : ∃ x, rs[k]? = some x := ⟨_, List.getElem?_eq_getElem hkl⟩
              have hin := canon_in HC.out HF.out (List.mem_of_getElem? hrk)
              dsimp only at hin
              obtain ⟨gr, crr, cur, er, hgr, hgr2, hrr⟩ := HO.out.head1 (by rw [List.length_map]; omega)
              rw [List.length_map] at er
              simp only [Value.slice.injEq] at er
              obtain ⟨rfl, -, rfl⟩ := er
              obtain ⟨gr', o', cap', cs, e', -, -, hcs, hcc, hrd⟩ := HO.out.rdT.at k (by rw [List.length_map]; exact hkl)
              simp only [Value.slice.injEq, Option.some.injEq, Addr.mk.injEq] at e'
              obtain ⟨⟨rfl, rfl, -⟩, -, -⟩ := e'
              have hget : (rs.map runI)[k]'(by rw [List.length_map]; exact hkl) = runI (ra, rc) := by
                rw [List.getElem_map]
                congr 1
                exact (List.getElem?_eq_some_iff.1 hrk).2
              rw [hget] at hrd
              obtain ⟨_, _, rfl, ⟨rfl, b1⟩, rfl, b2⟩ := hrd
              have d0 := hcc 0 _ rfl
              have d1 := hcc 1 _ rfl
              simp only [← Nat.add_assoc, Nat.add_zero, Nat.zero_add, show rRn.size = 2 from rfl, runI] at d0 d1
              clear hcc hcs hget b1 b2
              have h8lt := HA.out.r8.lt g8 rfl
              have hg1 : wo.heap.size ≤ w1.heap.size := HW1.out.size
              have hne : ¬ (Value.slice (some ⟨g8, 0, none⟩) now.length now.length).ownBlock = some gr := by
                simp only [Value.ownBlock, Option.map_some, Option.some.injEq]; omega
              have D0 := hid d0
              have D1 := hid d1
              have f0 := HKW.out.cell d0 hne
              have HRK := hid hrk
              have i1 : (k : Int) < (rs.length : Int) := by omega
              clear d0 d1 hrk
              go_wp2_with fail
              go_loopw [14, 16] (fun u14 u16 wr => ∃ m : Nat, u16 = .int .i64 ((ra + m : Nat) : Int) ∧ m ≤ rc ∧ u14 = .int .i64 (((flat (rs.take k)).length + m : Nat) : Int) ∧ OwnS rBo 4 wr w.heap.size (fun _ => False) (.slice (some ⟨g8, 0, none⟩) now.length now.length) (setAll now (flat (rs.take k) ++ List.range' ra m)) ∧ Keep (fun j => ¬ (Value.slice (some ⟨g8, 0, none⟩) now.length now.length).ownBlock = some j) w2 wr) (fun _ u16 _ => ra + rc - (intOf u16).toNat)
              case atStart => exact ⟨0, by simp, by omega, by simp, by simpa using HH8.out, HKW.out⟩
              case round =>
                clear f0
                obtain ⟨wq3, rfl⟩ : ∃ wq3 : World, wq3 = wr := ⟨_, rfl⟩
                obtain ⟨m, rfl, hm, rfl, h8, hkw⟩ := hrel
                have HH8 := hid h8
                have HKW := hid hkw
                have f0 := hkw.cell D0.out hne
                have f1 := hkw.cell D1.out hne
                clear h8 hkw
                by_cases hml : m < rc
                · obtain ⟨t1, t2, t3⟩ := take_next HF.out HRK.out hml
                  obtain ⟨g9, o9, c9, e9, hg9, -, z9⟩ := HH8.out.rdT.atB (ra + m) (by rw [setAll_len]; exact t1)
                  simp only [Value.slice.injEq, Option.some.injEq, Addr.mk.injEq] at e9
                  obtain ⟨⟨rfl, rfl, -⟩, -, rfl⟩ := e9
                  rw [(List.getElem?_eq_some_iff.1 t3).2, Nat.zero_add] at z9
                  obtain ⟨_, _, c10, e10, -, -, hrow⟩ := HH8.out.head1 (by rw [setAll_len]; omega)
                  simp only [Value.slice.injEq, Option.some.injEq, Addr.mk.injEq] at e10
                  obtain ⟨⟨rfl, -⟩, -, rfl⟩ := e10
                  have fz := frozen_blk hrow (ra + m)
                  obtain ⟨g7, o7, c7', e7, hg7, -, z7⟩ := (HR7.out.notOwn HKW.out (fun j hj => fun e => HA.out.n78 j hj e)).rdT.atB (ra + m) (by rw [HLAST.out]; exact t1)
                  rw [HLAST.out] at e7
                  simp only [Value.slice.injEq] at e7
                  obtain ⟨rfl, -, rfl⟩ := e7
                  rw [(List.getElem?_eq_some_iff.1 t2).2] at z7
                  have hwr : IntKind.i64.wrap ((ra : Int) + (rc : Int)) = (ra : Int) + (rc : Int) := by rw [IntKind.wrap_i64]; omega
                  have hlt3 : ((ra + m : Nat) : Int) < (ra : Int) + (rc : Int) := by omega
                  have hge0 : (0 : Int) ≤ (k : Int) := by omega
                  clear hrow
                  go_wp2_with fail
                  go_quiet (fail)
                  have z9q : (wq3.drewN nq).cell? ⟨g8, ra + m, none⟩ = _ := Ext.cellS ((Ext.refl wq3).drewN nq) z9
                  have z7q : (wq3.drewN nq).cell? ⟨g7, o7 + (ra + m), none⟩ = _ := Ext.cellS ((Ext.refl wq3).drewN nq) z7
                  have fzq : (wq3.drewN nq).frozen? ⟨g8, ra + m, none⟩ = false := by rw [← fz]; rfl
                  have hi1 : (0 : Int) ≤ ((ra + m : Nat) : Int) := by omega
                  have hi2 : ((ra + m : Nat) : Int) < (now.length : Int) := by omega
                  have hi4 : (((ra + m : Nat) : Int)).toNat = ra + m := by omega
                  clear z9 z7 fz f0 f1
                  go_wp2_with fail
                  go_roundw
                  case rel =>
                    refine ⟨m + 1, by go_num, by omega, by go_num, ?_, (HKW.out.drewN nq).setCell (p := ⟨g8, ra + m, none⟩) (fun h => h rfl) _⟩
                    rw [List.range'_concat, ← List.append_assoc, Nat.one_mul, setAll_snoc]
                    exact (HH8.out.ext (by (· repeat (first | (with_reducible assumption) | exact Ext.refl _ | refine Ext.alloc ?_ _ | refine Ext.drew ?_ | refine Ext.drewN ?_ _ | (apply Ext.snart; (with_reducible assumption)))))).set1 rfl (ra + m) (by rw [setAll_len]; omega) (.bool true) true rfl
                  case measure => simp [intOf]; omega
                · obtain rfl : m = rc := by omega
                  have hwr : IntKind.i64.wrap ((ra : Int) + (m : Int)) = (ra : Int) + (m : Int) := by rw [IntKind.wrap_i64]; omega
                  have hlt3 : ¬ ((ra + m : Nat) : Int) < (ra : Int) + (m : Int) := by omega
                  have hge0 : (0 : Int) ≤ (k : Int) := by omega
                  go_wp2_with fail
                  go_quiet (fail)
                  go_wp2_with fail
                  go_roundw
                  case rel =>
                    have e1 := flat_take_succ HRK.out
                    exact ⟨k + 1, by go_num, by omega, by rw [e1, List.length_append, List.length_range']; simp, by rw [e1]; exact HH8.out.ext (by (· repeat (first | (with_reducible assumption) | exact Ext.refl _ | refine Ext.alloc ?_ _ | refine Ext.drew ?_ | refine Ext.drewN ?_ _ | (apply Ext.snart; (with_reducible assumption))))), HKW.out.drewN nq⟩
                  case measure => simp [intOf]; omega
            · obtain rfl : k = rs.length := by omega
              have hmn : (flat (rs.take rs.length)).length = n := by
                rw [List.take_length, HF.out, List.length_take, ← HFR.out]; omega
              rw [hmn]
              have HMN := hid hmn
              clear hmn hlenk
              have hmw : MapAt T wq g (setAll now ((freeIdx now last).take n)) last := HM2.out.keep (HKW.out.mono fun j hj _ e => HA.out.n8 j e hj)
              have HMW := hid hmw
              clear hmw
              have hbb : (((0 : Int) == 0) && true) = true := rfl
              go_wp2_with fail
              refine (Free_any T wq g _ last HMW.out).mono ?_
              rw [free_take_len, ← HFR.out, show ((fr - n : Nat) : Int) = (fr : Int) - (n : Int) from by omega]
              rintro e w4 ⟨rfl, hx4⟩
              have HX4 := hid hx4
              clear hx4
              go_wp2_with fail
              go_roundw
              case rel =>
                have e8 := HH8.out
                rw [List.take_length, HF.out] at e8
                refine ⟨i + 1, T, setAll now ((freeIdx now last).take n), last, by go_num, by omega, by omega, by rw [setAll_len], HMW.out.ext HX4.out, HA.out.lo, fun k hk => ?_, ((HR7.out.notOwn HKW.out (fun j hj => fun e => HA.out.n78 j hj e))).ext HX4.out, e8.ext HX4.out, HA.out.n7, HA.out.n8, HA.out.n78, ?_⟩
                · have h1 := HA1.out.up k hk
                  have h2 := HK2.out.size
                  have h3 := HKW.out.size
                  have h4 := HX4.out.size
                  omega
                · refine Ext.trans ?_ HX4.out
                  have h1 : Ext w w2 := HA1.out.ext.keepT HK2.out HA.out.lo
                  exact h1.keepT (T := fun j => (Value.slice (some ⟨g8, 0, none⟩) now.length now.length).ownBlock = some j) HKW.out (fun j hj => (HA.out.r8.lt j hj).1)
              case measure => simp [intOf]; omega
        · have hnf' : ¬ (n : Int) ≤ (fr : Int) := by omega
          go_wp2_with fail
          refine (Take_full T w1 g now last HA1.out.map n (by rw [← HFR.out]; omega) (by omega)).mono ?_
          rintro e w2 ⟨rfl, hx2⟩
          have HX2 := hid hx2
          clear hx2
          go_wp2_with fail
          go_loopw [14, 15] (fun u14 u15 wr => u15 = .int .i64 0 ∧ u14 = .int .i64 0 ∧ wr = w2) (fun _ _ _ => 0)
          case atStart => exact ⟨rfl, rfl, rfl⟩
          case round =>
            obtain ⟨rfl, rfl, rfl⟩ := hrel
            go_wp2_with fail
            go_roundw
            case rel => exact ⟨i + 1, T, now, last, by go_num, by omega, by omega, rfl, HA1.out.exts HX2.out⟩
            case measure => simp [intOf]; omega
      · go_wp2_with fail
        have h512 := HA.out.both.2
        refine (Pick_any _ zn ((now.length : Int) + 1) hz1 (by omega) (by omega)).mono ?_
        rintro e w' ⟨rfl, rfl⟩
        have hj := pickF_lt zn ((now.length : Int) + 1).toNat (by omega)
        generalize pickF zn ((now.length : Int) + 1).toNat = j at hj ⊢
        have hj' : j ≤ now.length := by omega
        clear hj e1
        go_wp2_with fail
        have hxa : Ext wo (wo.alloc (.cells #[.int .i64 (j : Int), .int .i64 1] 43)) := (Ext.refl wo).alloc _
        refine (Give_any T _ g now last (HA.out.map.ext hxa) _ _ [((j : Int), 1)] (rdRun_new wo ((j : Int), 1) (by dsimp only; omega) (by dsimp only; omega))).mono ?_
        rw [give_one]
        rintro e w3 (⟨n3, hn3, rfl, hm3, hk3⟩ | ⟨hn3, rfl, hx3⟩)
        · have hjt : now[j]? = some true := by
            rcases Decidable.em (now[j]? = some true) with h | h
            · exact h
            · rw [if_neg h] at hn3; cases hn3
          rw [if_pos hjt] at hn3
          obtain rfl := Option.some.inj hn3
          obtain ⟨hjl, hje⟩ := List.getElem?_eq_some_iff.1 hjt
          obtain ⟨m1, m2, m3, m4, m5, m6, m7, m8⟩ := HA.out.step hxa hm3 hk3
          obtain ⟨g9, o9, c9, e9, hg9, -, z9⟩ := m5.rdT.atB j hjl
          simp only [Value.slice.injEq, Option.some.injEq, Addr.mk.injEq] at e9
          obtain ⟨⟨rfl, rfl, -⟩, -, rfl⟩ := e9
          rw [hje, Nat.zero_add] at z9
          obtain ⟨_, _, c10, e10, hb8, -, hrow⟩ := m5.head1 (by omega)
          simp only [Value.slice.injEq, Option.some.injEq, Addr.mk.injEq] at e10
          obtain ⟨⟨rfl, -⟩, -, rfl⟩ := e10
          have fz := frozen_blk hrow j
          have M := hid (And.intro m1 (And.intro m2 (And.intro m3 (And.intro m4 (And.intro m5 (And.intro m6 (And.intro m7 m8)))))))
          have hjI : (j : Int) < (now.length : Int) := by omega
          clear hn3 hjt hje hm3 hk3 m1 m2 m3 m4 m5 m6 m7 m8 hrow
          go_wp2_with fail
          go_roundw
          case rel =>
            obtain ⟨m1, m2, m3, m4, m5, m6, m7, m8⟩ := M.out
            have hks : ∀ S : Nat → Prop, ¬ S g8 → Keep S w3 (w3.setCell ⟨g8, j, none⟩ (.bool false)) := fun S h => (Keep.refl S w3).setCell (p := ⟨g8, j, none⟩) h _
            refine ⟨i + 1, _, now.set j false, last, by go_num, by omega, by omega, by rw [List.length_set], m1.keep (hks _ (m7 g8 rfl)), m2, fun k hk => by rw [heap_setCell_sz]; exact m3 k hk, m4.kept (hks _ (fun h => by rcases h with h | h; exact h; exact HA.out.n78 g8 h rfl)), m5.set1 rfl j hjl (.bool false) false rfl, m6, m7, HA.out.n78, m8.setCell hb8 _⟩
          case measure => simp [intOf]; omega
        · have hjt : ¬ now[j]? = some true := by
            rcases Decidable.em (now[j]? = some true) with h | h
            · rw [if_pos h] at hn3; cases hn3
            · exact h
          have HE := hid (HA.out.exts (hxa.trans hx3))
          clear hn3 hx3
          by_cases hjl : j < now.length
          · obtain ⟨g9, o9, c9, e9, hg9, -, z9⟩ := HE.out.r8.rdT.atB j hjl
            simp only [Value.slice.injEq, Option.some.injEq, Addr.mk.injEq] at e9
            obtain ⟨⟨rfl, rfl, -⟩, -, rfl⟩ := e9
            have hje : now[j] = false := by
              rw [List.getElem?_eq_getElem hjl] at hjt
              cases h : now[j] with
              | false => rfl
              | true => rw [h] at hjt; exact absurd rfl hjt
            rw [hje, Nat.zero_add] at z9
            have hjI : (j : Int) < (now.length : Int) := by omega
            clear hjt hje
            go_wp2_with fail
            go_roundw
            case rel => exact ⟨i + 1, T, now, last, by go_num, by omega, by omega, rfl, HE.out⟩
            case measure => simp [intOf]; omega
          · have hjI : ¬ (j : Int) < (now.length : Int) := by omega
            clear hjt
            go_wp2_with fail
            go_roundw
            case rel => exact ⟨i + 1, T, now, last, by go_num, by omega, by omega, rfl, HE.out⟩
            case measure => simp [intOf]; omega
      · go_wp2_with fail
        refine (Commit_any T wo g now last HA.out.map).mono ?_
        rintro e w3 ⟨rfl, hm3, hk3⟩
        obtain ⟨m1, m2, m3, m4, m5, m6, m7, m8⟩ := HA.out.step (Ext.refl wo) hm3 hk3
        obtain ⟨gs, hgs, hsrc, hall⟩ := (m5.rdT.ext ((Ext.refl w3).alloc (.cells #[] 4))).src Try.underlying36
        have h512 := HA.out.both.2
        have hgl : gs.length = now.length := by rw [hgs, List.length_map]
        have HMADE := hid (OwnS.made rBo 4 w3 (fun _ => False) (fun h => h))
        have HG := hid hgs
        have HSRC := hid hsrc
        have HALL := hid hall
        have HGL := hid hgl
        rw [hgl] at hsrc
        have HSRC := hid hsrc
        have M := hid (And.intro m1 (And.intro m2 (And.intro m3 (And.intro m4 (And.intro m5 (And.intro m6 (And.intro m7 m8)))))))
        clear hm3 hk3 m1 m2 m3 m4 m5 m6 m7 m8 hgs hsrc hall hgl e1
        go_wp2_with (at_builtin; go_must (refine wl_appS rBo rfl _ _ _ _ _ _ 1 rfl Try.underlying36 infoBool rfl w3.heap.size _ _ [] rfl HMADE.out _ gs rfl (by rw [HGL.out]; exact HSRC.out) (fun p hp => rBo_free (HALL.out p hp)) (fun _ h => h.elim) (by rw [HGL.out]; simp; omega) (by rw [HGL.out]; simp; omega) (by simp) ?_; intro v' w' k1 k2 k3; rw [List.nil_append, ← HG.out] at k1))
        go_roundw
        case rel =>
          obtain ⟨m1, m2, m3, m4, m5, m6, m7, m8⟩ := M.out
          have hx : Ext w3 w' := ((Ext.refl w3).alloc _).grown k2 (fun k hk => by cases hk; exact Nat.le_refl _)
          have hv' : ∀ k, v'.ownBlock = some k → w3.heap.size ≤ k := fun k hk => (k1.lt k hk).1
          refine ⟨i + 1, _, now, now, by go_num, by omega, by omega, rfl, m1.ext hx, m2, fun k hk => Nat.lt_of_lt_of_le (m3 k hk) hx.size, k1.low m8.size, m5.ext hx, fun k hk h => ?_, m7, fun k hk h => ?_, m8.trans hx⟩
          · have h1 := hv' k hk
            have h2 := m3 k h
            omega
          · have h1 := hv' k hk
            have h2 := (m5.lt k h).2
            omega
        case measure => simp [intOf]; omega
    · have hex : ¬ i < zs.length ∨ (i < zs.length ∧ ¬ i < 60) := by omega
      clear hlt
      rcases hex with hex | ⟨hex, hex2⟩
      all_goals
        go_wp2_with fail
        refine (Commit_any T wo g now last HA.out.map).mono ?_
        rintro e w3 ⟨rfl, hm3, hk3⟩
        obtain ⟨m1, m2, m3, m4, m5, m6, m7, m8⟩ := HA.out.step (Ext.refl wo) hm3 hk3
        have M1 := hid m1
        have M5 := hid m5
        have M8 := hid m8
        have h512 := HA.out.both.2
        clear hm3 hk3 m1 m2 m3 m4 m5 m6 m7 m8
        go_wp2_with fail
        go_loopw [19, 20] (fun u19 u20 wr => ∃ j : Nat, u20 = .int .i64 j ∧ j ≤ now.length ∧ u19 = .int .i64 (usedN (now.take j) : Nat) ∧ wr = w3) (fun _ u20 _ => now.length - (intOf u20).toNat)
        case atStart => exact ⟨0, rfl, by omega, by simp [usedN], rfl⟩
        case round =>
          obtain ⟨j, rfl, hj, rfl, rfl⟩ := hrel
          by_cases hjl : j < now.length
          · obtain ⟨g9, o9, c9, e9, hg9, -, z9⟩ := M5.out.rdT.atB j hjl
            simp only [Value.slice.injEq, Option.some.injEq, Addr.mk.injEq] at e9
            obtain ⟨⟨rfl, rfl, -⟩, -, rfl⟩ := e9
            rw [Nat.zero_add] at z9
            have HUS := hid (usedN_take_succ now j hjl)
            have hu := usedN_le (now.take j)
            rw [List.length_take] at hu
            generalize now[j] = b at z9 HUS
            cases b
            · go_wp2_with fail
              go_roundw
              case rel => exact ⟨j + 1, by go_num, by omega, by rw [HUS.out]; simp, trivial⟩
              case measure => simp [intOf]; omega
            · go_wp2_with fail
              go_roundw
              case rel => exact ⟨j + 1, by go_num, by omega, by rw [HUS.out]; go_num, trivial⟩
              case measure => simp [intOf]; omega
          · obtain rfl : j = now.length := by omega
            rw [List.take_length]
            have hfc := free_commit now
            obtain ⟨us, hus⟩ : ∃ us, us = usedN now := ⟨_, rfl⟩
            obtain ⟨fr, hfr⟩ : ∃ fr, fr = (freeIdx now now).length := ⟨_, rfl⟩
            rw [← hus, ← hfr] at hfc
            rw [← hus]
            have HFR := hid hfr
            clear hus hfr
            go_wp2_with fail
            refine (Free_any _ _ g now now M1.out).mono ?_
            rw [← HFR.out]
            rintro e w5 ⟨rfl, hx5⟩
            have hsub : (now.length : Int) - (us : Int) = (fr : Int) := by omega
            have HX5 := hid hx5
            clear hx5 hfc
            go_wp2_with fail
            go_ret
            exact ⟨by simp [hsub], (M8.out.trans HX5.out)⟩
end Go.Proofs.Ytbpcgfplokkfpaa
