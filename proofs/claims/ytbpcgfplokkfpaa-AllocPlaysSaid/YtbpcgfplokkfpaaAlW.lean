/- The alloc laws' awake. -/
import Derived.Test.YtbpcgfplokkfpaaAlP
import Derived.Test.YtbpcgfplokkfpaaAlE
import Derived.Test.YtbpcgfplokkfpaaAlY
import Derived.Test.YtbpcgfplokkfpaaSameR
namespace Go.Proofs.Ytbpcgfplokkfpaa
open Go.RowKit
set_option linter.unusedVariables false
set_option linter.unusedSimpArgs false

theorem Newer.lo {T : Nat → Prop} {w w' : World} {B : Nat} (h : ∀ k, T k → B ≤ k) (hB : B ≤ w.heap.size) : ∀ k, Newer T w w' k → B ≤ k := fun k hk => by
  rcases hk with h1 | h1
  · exact h k h1
  · exact Nat.le_trans hB h1.1
theorem Ext.keepT {T : Nat → Prop} {a w w' : World} (h : Ext a w) (hk : Keep (fun k => ¬ T k) w w') (hT : ∀ k, T k → a.heap.size ≤ k) : Ext a w' :=
  Below.trans h (hk.below a.heap.size h.size fun k hk' ht => by have := hT k ht; omega)
theorem ownRuns {w : World} {base : Nat} {v : Value} {xs : List (Int × Int)} (h : OwnS rRn 43 w base (fun _ => False) v xs) : RdR w v xs := (rdS_runs h.rdT).1
theorem runs_is {rs : List (Nat × Nat)} (hc : Canon rs) {l : List (Nat × Nat)} (hl : Canon l) (hf : flat rs = flat l) : rs = l := canon_ext hc hl hf
theorem canon_one (a k : Nat) (h : 1 ≤ k) : Canon [(a, k)] := ⟨fun r hr => by rw [List.mem_singleton.1 hr]; exact h, List.pairwise_singleton _ _⟩

theorem rdRun_new (w : World) (r : Int × Int) (h0 : -9223372036854775808 ≤ r.1 ∧ r.1 ≤ 9223372036854775807) (h1 : -9223372036854775808 ≤ r.2 ∧ r.2 ≤ 9223372036854775807) :
    RdS rRn (w.alloc (.cells #[.int .i64 r.1, .int .i64 r.2] 43)) (fun _ => True) (.slice (some ⟨w.heap.size, 0, none⟩) 1 1) [r] := by
  refine ⟨_, [([.int .i64 r.1, .int .i64 r.2], r)], rfl, rfl, ⟨some ⟨w.heap.size, 0, none⟩, 1, rfl, Nat.le_refl 1, by show (1 : Nat) ≤ 9223372036854775807; omega, rfl, fun _ => ⟨w.heap.size, 0, rfl, by simp, fun j hj => ?_⟩⟩, fun _ _ _ => trivial, fun p hp => ?_⟩
  · have hj2 : j < 2 := hj
    rw [cell_of_row _ _ _ _ _ _ (heap_alloc_new w _)]
    match j, hj2 with
    | 0, _ => rfl
    | 1, _ => rfl
  · obtain rfl := List.mem_singleton.1 hp
    exact ⟨[_], _, rfl, ⟨rfl, h0⟩, rfl, h1⟩

set_option maxRecDepth 100000 in
set_option maxHeartbeats 2000000 in
theorem awake5_any (w : World) : Calls Try.prog 21 #[] w fun e w' => e = .returned (.bool true) ∧ Ext w w' := by
  go_enter Try.func21, Try.ntmps21
  go_wp2_with fail
  refine (NewM_ok w 10 (by omega)).mono ?_
  rintro e w1 ⟨g, rfl, hm, hx1⟩
  go_wp2_with fail
  refine (Take_ok _ w1 g _ _ hm 3 (by decide)).mono ?_
  rintro e w2 ⟨v, rs, rfl, hc, hf, ho, hm2, hk2⟩
  obtain rfl : rs = [(0, 3)] := runs_is hc (canon_one 0 3 (by omega)) (by rw [hf]; decide)
  rw [show setAll (List.replicate 10 false) ((freeIdx (List.replicate 10 false) (List.replicate 10 false)).take 3) = [true, true, true, false, false, false, false, false, false, false] from by decide] at hm2
  have hb2 := ho.lt
  obtain ⟨va, vc, rfl⟩ := ho.slice
  have HO := hid ho
  have HM2 := hid hm2
  have HK2 := hid hk2
  have HX1 := hid hx1
  clear hm hc hf ho hm2 hk2 hx1
  go_wp2_with fail
  refine (Give_any _ _ g _ _ (HM2.out.ext (by (· repeat (first | (with_reducible assumption) | exact Ext.refl _ | refine Ext.alloc ?_ _ | refine Ext.drew ?_ | refine Ext.drewN ?_ _ | (apply Ext.snart; (with_reducible assumption)))))) _ _ [(1, 2)] (rdRun_new w2 (1, 2) (by decide) (by decide))).mono ?_
  rintro e w3 (⟨n3, hn3, rfl, hm3, hk3⟩ | ⟨hn3, -, -⟩)
  rotate_left
  · exact absurd hn3 (by decide)
  obtain rfl : n3 = [true, false, false, false, false, false, false, false, false, false] := by
    rw [show giveF [true, true, true, false, false, false, false, false, false, false] [(1, 2)] = some [true, false, false, false, false, false, false, false, false, false] from by decide] at hn3
    exact (Option.some.inj hn3).symm
  have HM3 := hid hm3
  have HK3 := hid hk3
  clear hn3 hm3 hk3
  go_wp2_with fail
  refine (Commit_any _ w3 g _ _ HM3.out).mono ?_
  rintro e w4 ⟨rfl, hm4, hk4⟩
  have HM4 := hid hm4
  have HK4 := hid hk4
  clear hm4 hk4
  go_wp2_with fail
  refine (Take_ok _ w4 g _ _ HM4.out 2 (by decide)).mono ?_
  rintro e w5 ⟨v5, rs5, rfl, hc, hf, ho5, hm5, hk5⟩
  obtain rfl : rs5 = [(1, 2)] := runs_is hc (canon_one 1 2 (by omega)) (by rw [hf]; decide)
  rw [show setAll [true, false, false, false, false, false, false, false, false, false] ((freeIdx [true, false, false, false, false, false, false, false, false, false] [true, false, false, false, false, false, false, false, false, false]).take 2) = [true, true, true, false, false, false, false, false, false, false] from by decide] at hm5
  obtain ⟨va5, vc5, rfl⟩ := ho5.slice
  have HO5 := hid ho5
  have HM5 := hid hm5
  have HK5 := hid hk5
  clear hc hf ho5 hm5 hk5
  have s2 := HK2.out.size
  have s3 := HK3.out.size
  have s4 := HK4.out.size
  have s5 := HK5.out.size
  have sx := HX1.out.size
  simp only [heap_alloc_sz] at s3
  have hA5 : OwnS rRn 43 w5 w1.heap.size (fun _ => False) (.slice va (List.map runI [(0, 3)]).length vc) (List.map runI [(0, 3)]) := by
    refine (((HO.out.ext ((Ext.refl w2).alloc (.cells #[.int .i64 1, .int .i64 2] 43))).kept (HK3.out.mono fun j hj _ => ?_)).kept (HK4.out.mono fun j hj _ => ?_)).kept (HK5.out.mono fun j hj _ => ?_)
    all_goals
      rcases hj with hj | hj
      · exact hj.elim
      have := hb2 j hj
      first | omega | (simp only [Newer, heap_alloc_sz]; omega)
  have HA5 := hid hA5
  have e2 : Ext w w2 := HX1.out.keepT HK2.out (fun k hk => hk.1)
  have e3 : Ext w w3 := (e2.alloc _).keepT HK3.out (fun k hk => hk.1)
  have e4 : Ext w w4 := e3.keepT HK4.out (Newer.lo (fun k hk => hk.1) (e2.alloc _).size)
  have e5 : Ext w w5 := e4.keepT HK5.out (Newer.lo (Newer.lo (fun k hk => hk.1) (e2.alloc _).size) e3.size)
  have E5 := hid e5
  clear e2 e3 e4 e5 s2 s3 s4 s5 sx hb2 hA5
  go_wp2_with fail
  refine (SameRuns_any _ _ _ [(0, 3)] [(0, 3)] ((ownRuns HA5.out).ext (by (· repeat (first | (with_reducible assumption) | exact Ext.refl _ | refine Ext.alloc ?_ _ | refine Ext.drew ?_ | refine Ext.drewN ?_ _ | (apply Ext.snart; (with_reducible assumption)))))) (rdS_runs (rdRun_new w5 (0, 3) (by decide) (by decide))).1).mono ?_
  rintro e w6 ⟨rfl, hx6⟩
  have hx6' : Ext w5 w6 := ((Ext.refl w5).alloc _).trans hx6
  have HX6 := hid hx6'
  clear hx6 hx6'
  go_wp2_with fail
  refine (SameRuns_any _ _ _ [(1, 2)] [(1, 2)] ((ownRuns HO5.out).ext (HX6.out.trans (by (· repeat (first | (with_reducible assumption) | exact Ext.refl _ | refine Ext.alloc ?_ _ | refine Ext.drew ?_ | refine Ext.drewN ?_ _ | (apply Ext.snart; (with_reducible assumption))))))) (rdS_runs (rdRun_new w6 (1, 2) (by decide) (by decide))).1).mono ?_
  rintro e w7 ⟨rfl, hx7⟩
  have hx7' : Ext w5 w7 := (HX6.out.alloc _).trans hx7
  have HX7 := hid hx7'
  clear hx7 hx7'
  have HB := hid (show mapB [true, true, true, false, false, false, false, false, false, false] = [10, 7, 0] from by decide +kernel)
  have HF := hid (show (freeIdx [true, true, true, false, false, false, false, false, false, false] [true, false, false, false, false, false, false, false, false, false]).length = 7 from by decide)
  simp only [decide_true]
  go_wp2_with (first | (go_at_call 24; go_must (refine (Free_any _ _ g _ _ (HM5.out.ext HX7.out)).mono ?_; rw [HF.out]; rintro e w8 ⟨rfl, hx8⟩; have HX8 := hid (HX7.out.trans hx8); clear hx8)) | (go_at_call 29; go_must (refine (MBytes_any _ _ g _ _ (HM5.out.ext HX8.out)).mono ?_; rw [HB.out]; (rintro e w' ⟨v', rfl, ho', hb'⟩; have hr' := rdB_own ho'; obtain ⟨a', c', rfl⟩ := OwnB.slice ho'; (try simp only [List.nil_append, List.length_append, List.length_cons, List.length_nil, Nat.zero_add, Nat.reduceAdd] at ho' hr'); have hx' := Ext.of hb'; clear hb'); have hs' := run_strB hr')))
  go_ret
  exact ⟨rfl, (E5.out.trans HX8.out).trans hx'⟩
end Go.Proofs.Ytbpcgfplokkfpaa
