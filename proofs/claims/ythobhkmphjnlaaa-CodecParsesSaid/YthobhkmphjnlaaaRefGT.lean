/- The reference's functions that read numbers, integers, texts, four bytes, frames. -/
import Derived.Test.YthobhkmphjnlaaaLead
import Derived.Test.YthobhkmphjnlaaaRefGU
namespace Go.Proofs.Ythobhkmphjnlaaa
open Go.RowKit
set_option linter.unusedVariables false
set_option linter.unusedSimpArgs false
attribute [local go_sem ↓] Go.wp_at_zero Go.wp_at_succ

set_option maxRecDepth 100000 in
set_option maxHeartbeats 1000000 in
theorem RInt_any (w : World) (v : Value) (l : List UInt8) (hv : RdB w v l) :
    Calls Try.prog 70 #[v] w fun e w' => e = .returned (.tuple #[.int .i64 (unzig (uintF l).1), .int .i64 (uintF l).2.1, .int .i64 (uintF l).2.2]) ∧ Below w.heap.size w w' := by
  have hfc := uintF_facts l
  generalize hU : uintF l = r at hfc
  obtain ⟨n, k, er⟩ := r
  obtain ⟨f1, f2, f3, f4⟩ := hfc
  dsimp only at f1 f2 f3 f4 ⊢
  have HU := hid hU
  clear hU
  have HZ : Hid (unzig n = if n % 2 = 0 then ((n / 2 : Nat) : Int) else -((n / 2 : Nat) : Int) - 1) := rfl
  generalize unzig n = z at HZ
  rcases f4 with ⟨rfl, _⟩ | ⟨f4, rfl, rfl⟩
  · have hw1 : IntKind.i64.wrap ((n : Int) / 2) = (n : Int) / 2 := by rw [IntKind.wrap_i64]; omega
    by_cases h2 : n % 2 = 0
    · have h2' : (n : Int) % 2 = 0 := by omega
      have H2' := hid h2'
      have H2 := hid h2
      clear h2
      go_enter Try.func70, Try.ntmps70
      go_wp2_with (go_at_call 92; go_must (refine (RUint_any _ _ l hv).mono ?_; rintro e w1 ⟨rfl, hb1⟩; rw [HU.out]; dsimp only))
      go_ret3
      exact ⟨ret3 (by rw [HZ.out, if_pos H2.out]; omega) rfl rfl, hb1⟩
    · have h2' : (n : Int) % 2 = 1 := by omega
      have H2 := hid h2
      clear h2
      go_enter Try.func70, Try.ntmps70
      go_wp2_with (go_at_call 92; go_must (refine (RUint_any _ _ l hv).mono ?_; rintro e w1 ⟨rfl, hb1⟩; rw [HU.out]; dsimp only))
      go_ret3
      exact ⟨ret3 (by rw [HZ.out, if_neg H2.out]; omega) rfl rfl, hb1⟩
  · have he1 : ¬ ((er : Int) = 0) := by omega
    have HZ0 : Hid (z = 0) := by show _ = _; rw [HZ.out]; rfl
    go_enter Try.func70, Try.ntmps70
    go_wp2_with (go_at_call 92; go_must (refine (RUint_any _ _ l hv).mono ?_; rintro e w1 ⟨rfl, hb1⟩; rw [HU.out]; dsimp only))
    go_ret3
    exact ⟨by rw [HZ0.out]; rfl, hb1⟩

set_option maxRecDepth 100000 in
set_option maxHeartbeats 1000000 in
theorem RText_any (w : World) (v : Value) (l : List UInt8) (most : Int) (hm1 : -9223372036854775808 ≤ most) (hm2 : most ≤ 9223372036854775807) (hv : RdB w v l) :
    Calls Try.prog 91 #[v, .int .i64 most] w fun e w' => e = .returned (.tuple #[.string ⟨(textF l most).1.toArray⟩, .int .i64 (textF l most).2.1, .int .i64 (textF l most).2.2]) ∧ Below w.heap.size w w' := by
  have hfc := uintF_facts l
  obtain ⟨a, cap, rfl, h1, h2, h3, h4⟩ := id hv
  have h2 : cap ≤ 9223372036854775807 := by unfold maxLen at h2; omega
  clear h4 h3
  have HV := hid hv
  clear hv
  go_enter Try.func91, Try.ntmps91
  go_wp2_with fail
  refine (RUint_any w _ l HV.out).mono ?_
  rintro e w1 ⟨rfl, hb1⟩
  have HV1 := hid (HV.out.below hb1)
  generalize hu : uintF l = r at hfc ⊢
  obtain ⟨u, k, er⟩ := r
  obtain ⟨f1, f2, f3, f4⟩ := hfc
  dsimp only at f1 f2 f3 f4 ⊢
  have HU := hid hu
  clear hu
  have HF : Hid (textF l most = if er ≠ 0 then ([], 0, er) else if most < 0 ∨ most < (u : Int) then ([], 0, 12) else if l.length - k < u then ([], 0, 10) else ((l.drop k).take u, k + u, 0)) := by
    show _ = _
    rw [textF, HU.out]
  clear HU
  by_cases he : er = 0
  · subst he
    by_cases hneg : most < 0
    · go_wp2
      go_ret3
      refine ⟨?_, hb1⟩
      rw [HF.out, if_neg (by simp), if_pos (.inl hneg)]
      rfl
    · by_cases hlong : most < u
      · go_wp2
        go_ret3
        refine ⟨?_, hb1⟩
        rw [HF.out, if_neg (by simp), if_pos (.inr hlong)]
        rfl
      · by_cases hsh : l.length - k < u
        · go_wp2
          go_ret3
          refine ⟨?_, hb1⟩
          rw [HF.out, if_neg (by simp), if_neg (by omega), if_pos hsh]
          rfl
        · have hsub := RdB.cut HV1.out k (k + u) (by omega) (by omega)
          rw [show k + u - k = u from by omega] at hsub
          have hstr := run_strB hsub
          go_wp2_with ((with_reducible refine at_slice ?_); go_must (refine wl_slice_lh rfl rfl Try.underlying54 sizeU8 rfl rfl rfl k (k + u) rfl ?_ ?_ ?_ ?_; omega; omega; omega; rw [show k + u - k = u from by omega]))
          go_ret3
          refine ⟨?_, hb1⟩
          rw [HF.out, if_neg (by simp), if_neg (by omega), if_neg hsh]
          rfl
  · rcases f4 with f4 | ⟨f4, rfl, rfl⟩
    · exact absurd f4.1 he
    · rcases f4 with rfl | rfl
      all_goals
        go_wp2
        go_ret3
        refine ⟨?_, hb1⟩
        rw [HF.out]
        rfl

end Go.Proofs.Ythobhkmphjnlaaa
