/- cartularylaw03.SuperNone, walked. -/
import Derived.Test.YtgbiffpnfpdcoaaSuW
namespace Go.Proofs.Ytgbiffpnfpdcoaa
open Go.RowKit Go.Maps
set_option linter.unusedVariables false
set_option linter.unusedSimpArgs false

theorem none_out {n : Int} (h : n < 0 ∨ 62 < n) (data : List UInt8) : loadF (dv0 64) n = ⟨[], 0, 20, dv0 64⟩ ∧ storeF (dv0 64) n data = (20, dv0 64) ∧ wrongF (dv0 64) n = 20 := by
  have hl0 : (dv0 64).safe.length = 64 := List.length_replicate
  have hw : wrongF (dv0 64) n = 20 := by unfold wrongF; rw [hl0, if_pos (by omega)]
  refine ⟨?_, ?_, hw⟩
  · unfold loadF; rw [hw, if_pos (by omega)]
  · unfold storeF; rw [hw, if_pos (by omega)]
theorem none_in {n : Int} (h : 0 ≤ n ∧ n ≤ 62) (data : List UInt8) : ∃ d1 d2, loadF (dv0 64) n = ⟨[], 0, 30, d1⟩ ∧ newC (bothF d1 n) = 0 ∧ storeF d1 n data = (if 400 < data.length then (31, d1) else (30, d2)) := by
  have hl0 : (dv0 64).safe.length = 64 := List.length_replicate
  obtain ⟨d1, c1, l1, v1, e1⟩ := load_calm (calm_new 64) (n := n) (by rw [hl0]; omega)
  rw [cur_new (n := 64) (j := n) (by omega) (by omega), cur_new (n := 64) (j := n + 1) (by omega) (by omega), slF_zb, newF_00, if_pos (by omega)] at e1
  rw [hl0] at l1
  have k4 : curF d1 n = zb := by rw [v1, cur_new (by omega) (by omega)]
  have k5 : curF d1 (n + 1) = zb := by rw [v1, cur_new (by omega) (by omega)]
  obtain ⟨b2, f2, -, -, -⟩ := both_calm c1 (n := n) (by rw [l1]; omega)
  rw [k4, k5, slF_zb, newF_00] at f2
  by_cases hd : 400 < data.length
  · refine ⟨d1, d1, e1, by rw [f2]; rfl, ?_⟩
    rw [if_pos hd]
    unfold storeF
    rw [if_neg (by unfold wrongF; rw [l1, if_neg (by omega)]; simp), if_pos hd]
  · obtain ⟨d2, c2, l2, v2, e2⟩ := store_calm c1 (n := n) (by rw [l1]; omega) (data := data) (by omega)
    rw [k4, k5, slF_zb, newF_00, if_pos (by omega)] at e2
    exact ⟨d1, d2, e1, by rw [f2]; rfl, by rw [if_neg hd]; exact e2⟩

set_option maxRecDepth 100000 in
set_option maxHeartbeats 2000000 in
theorem superNone_any (w : World) (n : Int) (hn : -9223372036854775808 ≤ n ∧ n ≤ 9223372036854775807) (v : Value) (data : List UInt8) (hv : RdB w v data) :
    Calls Try.prog 3 #[.int .i64 n, v] w fun e w' => e = .returned (.bool true) ∧ Ext w w' := by
  obtain ⟨va, vc, rfl⟩ := hv.slice'
  have HV := hid hv
  have HN := hid hn
  obtain ⟨hn1, hn2⟩ := hn
  clear hv
  go_enter Try.func3, Try.ntmps3
  go_wp2_with fail
  refine (sawake_any w).mono ?_
  rintro e w0 ⟨rfl, hx0⟩
  have HX0 := hid hx0
  clear hx0
  go_wp2_with fail
  refine (New64 w0).mono ?_
  rintro e w1 ⟨g, rfl, ρ, hm⟩
  have HM := hid hm
  clear hm
  go_wp2_with fail
  refine (Load_nil w1 n).mono ?_
  rintro e w1' ⟨rfl, rfl⟩
  go_wp2_with fail
  refine (Format_nil w1 n _).mono ?_
  rintro e w1' ⟨rfl, rfl⟩
  go_wp2_with fail
  refine (Store_nil w1 n _).mono ?_
  rintro e w1' ⟨rfl, rfl⟩
  go_wp2_with fail
  refine (Load_any w1 g ρ 0 (dv0 64) HM.out.dv (by omega) n HN.out).mono ?_
  rintro e w2 ⟨v1, rfl, hr1, hb1, hd1, hk1⟩
  have hm := HM.out.lo (v := v1) hd1 hk1
  obtain ⟨a1, c1, rfl⟩ := hr1.slice'
  have hvd : RdB w2 (.slice va data.length vc) data := (HV.out.ext HX0.out).ext hm.ex
  have hvb : 0 < data.length → ∀ k, (Value.slice va data.length vc).ownBlock = some k → ρ k = none := fun h0 k hk => by
    by_cases e : ρ k = none
    · exact e
    · have h1 := hm.nw k e
      have h2 := Rd.block_lt HV.out h0 k hk
      have := HX0.out.size; omega
  have HVD := hid hvd
  have HVB := hid hvb
  clear hvd hvb hd1 hk1 hb1 hr1
  by_cases hout : n < 0 ∨ 62 < n
  · obtain ⟨p1, p2, p3⟩ := none_out hout data
    have P2 := hid p2
    have P3 := hid p3
    rw [p1] at hm ⊢
    dsimp only at hm ⊢
    have HM2 := hid hm
    clear hm p1 p2 p3
    go_wp2_with fail
    refine (Store_any w2 g ρ _ (dv0 64) HM2.out.dv (by omega) n HN.out _ data HVD.out HVB.out (fun h => by rw [P3.out] at h; omega)).mono ?_
    rintro e w3 ⟨rfl, ρ3, hd3, hk3, hr3⟩
    have hm3 := HM2.out.wr hd3 hk3 hr3
    rw [P2.out] at hm3 ⊢
    dsimp only at hm3 ⊢
    have HM3 := hid hm3
    clear hm3 hd3 hk3 hr3
    rcases hout with h | h
    · go_wp2_with fail
      go_ret
      exact ⟨rfl, HX0.out.trans HM3.out.ex⟩
    · have h2 : ¬ n < 0 := by omega
      go_wp2_with fail
      go_ret
      exact ⟨rfl, HX0.out.trans HM3.out.ex⟩
  · obtain ⟨d1, d2, p1, p2, p3⟩ := none_in (n := n) (by omega) data
    have P2 := hid p2
    have P3 := hid p3
    rw [p1] at hm ⊢
    dsimp only at hm ⊢
    have HM2 := hid hm
    have h1 : ¬ n < 0 := by omega
    have h2 : ¬ 62 < n := by omega
    clear hm p1 p2 p3 hout
    go_wp2_with fail
    refine (Store_any w2 g ρ _ d1 HM2.out.dv (by omega) n HN.out _ data HVD.out HVB.out (fun _ => by rw [P2.out]; omega)).mono ?_
    rintro e w3 ⟨rfl, ρ3, hd3, hk3, hr3⟩
    have hm3 := HM2.out.wr hd3 hk3 hr3
    rw [P3.out] at hm3 ⊢
    have HM3 := hid hm3.ex
    clear hm3 hd3 hk3 hr3
    by_cases hl : 400 < data.length
    · rw [if_pos hl]
      dsimp only
      have hl' : (400 : Int) < (data.length : Int) := by omega
      go_wp2_with fail
      go_ret
      exact ⟨rfl, HX0.out.trans HM3.out⟩
    · rw [if_neg hl]
      dsimp only
      have hl' : ¬ (400 : Int) < (data.length : Int) := by omega
      go_wp2_with fail
      go_ret
      exact ⟨rfl, HX0.out.trans HM3.out⟩
theorem superNone_walk (w : World) (n : Int) (hn : -9223372036854775808 ≤ n ∧ n ≤ 9223372036854775807) (v : Value) (l : List UInt8) (hv : RdB w v l) (_ : l.length ≤ 140737488351232) :
    Calls Try.prog 3 #[.int .i64 n, v] w fun e w' => e = .returned (.bool true) ∧ Below w.heap.size w w' :=
  (superNone_any w n hn v l hv).mono fun e w' h => ⟨h.1, h.2.below⟩
end Go.Proofs.Ytgbiffpnfpdcoaa
