/- super: lay, walked. -/
import Derived.Test.YtgbiffpnfpdcoaaSuD
import Derived.Test.YtgbiffpnfpdcoaaAppZ
namespace Go.Proofs.Ytgbiffpnfpdcoaa
open Go.RowKit Go.Maps
set_option linter.unusedVariables false
set_option linter.unusedSimpArgs false

/-- a record's block -/
def recB (c : Nat) (data : List UInt8) : List UInt8 := putF 115 (putU c ++ data) ++ List.replicate (512 - (putF 115 (putU c ++ data)).length) 0
theorem recB_len (c : Nat) (data : List UInt8) (h : data.length ≤ 400) : (putF 115 (putU c ++ data)).length ≤ 512 ∧ (recB c data).length = 512 ∧ (putU c ++ data).length ≤ 410 := by
  have h1 := putU_len c
  have h2 := putU_len (putU c ++ data).length
  have h3 : (putF 115 (putU c ++ data)).length ≤ 512 := by rw [putF_length, List.length_append]; rw [List.length_append] at h2; omega
  refine ⟨h3, ?_, by rw [List.length_append]; omega⟩
  unfold recB
  rw [List.length_append, List.length_replicate]; omega

def layF (d : Dv) (n : Int) (c : Nat) (data : List UInt8) : Int × Dv := if (writeF d n (recB c data)).1 ≠ 0 then writeF d n (recB c data) else flushF (writeF d n (recB c data)).2

theorem wr_then {w wa w1 w2 : World} {ρ ρ1 ρ2 : Nat → Option DRol} (hx : Ext w wa) (hk1 : Keep (fun k => ρ k = none) wa w1) (hr1 : ∀ k, ρ1 k ≠ none → ρ k ≠ none ∨ wa.heap.size ≤ k) (hk2 : Keep (fun k => ρ1 k = none) w1 w2) (hr2 : ∀ k, ρ2 k ≠ none → ρ1 k ≠ none ∨ w1.heap.size ≤ k) :
    Keep (fun k => ρ k = none) w w2 ∧ ∀ k, ρ2 k ≠ none → ρ k ≠ none ∨ w.heap.size ≤ k := by
  have z0 := hx.size
  have z1 := hk1.size
  refine ⟨?_, fun k hk => ?_⟩
  · have h1 : Keep (fun k => ρ k = none ∧ k < w.heap.size) w w1 := ((hx.keep _).trans hk1).mono fun k hk _ => hk.1
    have h2 : Keep (fun k => ρ k = none ∧ k < w.heap.size) w1 w2 := hk2.mono fun k hk _ => by
      by_cases h : ρ1 k = none
      · exact h
      · rcases hr1 k h with h' | h'
        · exact absurd hk.1 h'
        · omega
    exact (h1.trans h2).mono fun k hk hl => ⟨hk, hl⟩
  · rcases hr2 k hk with h | h
    · rcases hr1 k h with h | h
      · exact .inl h
      · right; omega
    · right; omega

theorem PutFrame_s (w : World) (dv : Value) (data : List UInt8) (hd : RdB w dv data) (hlong : data.length ≤ 2000) :
    Calls Try.prog 82 #[.slice none 0 0, .agg #[.int .u8 115, dv]] w fun e w' => ∃ v', e = .returned (.tuple #[v', .int .i64 0]) ∧ OwnB w' w.heap.size v' (putF 115 data) ∧ Below w.heap.size w w' := by
  have h := PutFrame_any w (.slice none 0 0) [] 115 dv data (RdB.nil _) hd hlong (by simp)
  rw [show (((115 : UInt8).toNat : Nat) : Int) = 115 from rfl, List.nil_append] at h
  exact h
set_option maxRecDepth 100000 in
set_option maxHeartbeats 400000 in
theorem lay_any (w : World) (g : Nat) (ρ : Nat → Option DRol) (N : Nat) (d : Dv) (h : DvAt w g ρ N d) (hN : N ≤ 999999990) (n : Int) (hn : -9223372036854775808 ≤ n ∧ n ≤ 9223372036854775807) (c : Nat) (hc : c ≤ 1000000000) (v : Value) (data : List UInt8) (hv : RdB w v data) (hdl : data.length ≤ 400) :
    Calls Try.prog 55 #[.pointer (some ⟨g, 0, none⟩), .int .i64 n, .int .i64 c, v] w (WrEnd w g ρ (N + 3) (layF d n c data)) := by
  obtain ⟨va, vc, rfl⟩ := hv.slice'
  obtain ⟨hB1, hB2, hB3⟩ := recB_len c data hdl
  have HRL := hid (fun k (hk : ρ k ≠ none) => h.rlt k hk)
  have HV := hid hv
  have H := hid h
  have HN := hid hn
  have hcm : (c : Int) % 18446744073709551616 = c := by omega
  have hpu := putU_len c
  obtain ⟨D, hD⟩ : ∃ D, D = putU c ++ data := ⟨_, rfl⟩
  have HDD := hid hD
  have HRB := hid (show recB c data = putF 115 D ++ List.replicate (512 - (putF 115 D).length) 0 by rw [hD, recB])
  rw [← hD] at hB1 hB3
  clear hD
  clear h hv hn
  go_enter Try.func55, Try.ntmps55
  go_wp2_with fail
  refine (PutUint_any w (.slice none 0 0) [] c (RdB.nil _) (by omega) (by simp)).mono ?_
  rintro e w1 ⟨v1, rfl, ho1, hb1⟩
  rw [List.nil_append] at ho1
  have hx1 := Ext.of hb1
  obtain ⟨a1, c1, rfl⟩ := ho1.slice
  have hs1 := hx1.size
  go_wp2_with (at_builtin; go_must (refine wl_appB rfl _ _ _ rfl w.heap.size _ (putU c) rfl (appB_own ho1) _ data rfl (src_B (HV.out.ext hx1)) ?_ ?_ ?_; (first | omega | skip); (first | omega | skip); intro v2 w2 k1 k2 k3 k4 k5 k6; have ho2 := k3 ho1; rw [← HDD.out] at ho2; have hx2 : Ext w w2 := Ext.step hx1 k5 (Nat.le_refl _); clear k1 k2 k3 k4 k5 k6 ho1; obtain ⟨a2, c2, rfl⟩ := ho2.slice))
  have hs2 := hx2.size
  refine (PutFrame_s w2 _ _ (rdB_own ho2) (by omega)).mono ?_
  rintro e w3 ⟨v3, rfl, ho3, hb3⟩
  have hx3 := Ext.of hb3
  have hs3 := hx3.size
  generalize putF 115 D = B at ho3 hB1 HRB
  obtain ⟨a3, c3, rfl⟩ := ho3.slice
  have hsub : IntKind.i64.wrap (512 - (B.length : Int)) = ((512 - B.length : Nat) : Int) := by rw [IntKind.wrap_i64]; omega
  have HX2 := hid hx2
  have HB2 := hid hB2
  clear ho2 hx1 hx2 hb1 hb3 hpu hcm hB2
  go_wp2_with (at_builtin; go_must (refine wl_appZ rfl _ _ rfl w2.heap.size _ B rfl (appB_own ho3) (512 - B.length) rfl ?_ ?_ ?_; (first | omega | skip); (first | omega | skip); intro v4 w4 k1 k2 k3 k4 k5 k6; have ho4 := k3 ho3; have hx4 : Ext w2 w4 := Ext.step hx3 k5 (Nat.le_refl _); clear k1 k2 k3 k4 k5 k6; obtain ⟨a4, c4, rfl⟩ := ho4.slice))
  have HX4 := hid (HX2.out.trans hx4)
  rw [← HRB.out] at ho4
  have HO4 := hid ho4
  have hvb : ∀ k, (Value.slice a4 (recB c data).length c4).ownBlock = some k → ρ k = none := fun k hk => by
    by_cases h : ρ k = none
    · exact h
    · have h1 := HRL.out k h
      have h2 := (World.ownsRow.lt ho4 k hk).1
      omega
  have hrd : RdB w4 (.slice a4 512 c4) (recB c data) := by
    have := rdB_own ho4
    rw [HB2.out] at this
    exact this
  rw [HB2.out] at hvb
  refine (Write_any w4 g ρ N d (H.out.ext HX4.out) (by omega) n HN.out _ (recB c data) hrd hvb).mono ?_
  rintro e w5 ⟨rfl, ρ1, hd5, hk5, hr5⟩
  clear hrd hvb ho4 ho3 hx4 hx3 hsub hB1
  by_cases hx : (writeF d n (recB c data)).1 = 0
  · have hL := hid (show layF d n c data = flushF (writeF d n (recB c data)).2 by unfold layF; rw [if_neg (by simpa using hx)])
    rw [hx]
    generalize (writeF d n (recB c data)).2 = d5 at hd5 hL
    have HD5 := hid hd5
    have HK5 := hid hk5
    have HR5 := hid hr5
    clear hd5 hk5 hr5 hx
    go_wp2_with fail
    refine (Flush_any w5 g ρ1 (N + 2) d5 HD5.out (by omega)).mono ?_
    rintro e w6 ⟨rfl, ρ2, hd6, hk6, hr6⟩
    have HD6 := hid hd6
    obtain ⟨h1, h2⟩ := wr_then HX4.out HK5.out HR5.out hk6 hr6
    have H1 := hid h1
    have H2 := hid h2
    clear hd6 hk6 hr6 h1 h2
    go_wp2_with fail
    go_ret
    exact ⟨by rw [hL.out]; rfl, ρ2, by rw [hL.out]; exact HD6.out, H1.out, H2.out⟩
  · have hL := hid (show layF d n c data = writeF d n (recB c data) by unfold layF; rw [if_pos (by simpa using hx)])
    generalize writeF d n (recB c data) = X at hd5 hL hx
    obtain ⟨x, d5⟩ := X
    dsimp only at hd5 hx
    have HD5 := hid hd5
    obtain ⟨h1, h2⟩ := wr_then HX4.out hk5 hr5 (Keep.refl _ _) (fun k h => .inl h)
    have H1 := hid h1
    have H2 := hid h2
    clear hd5 hk5 hr5 h1 h2
    go_wp2_with fail
    go_ret
    exact ⟨by rw [hL.out]; rfl, ρ1, by rw [hL.out]; exact HD5.out.mono (by omega), H1.out, H2.out⟩
end Go.Proofs.Ytgbiffpnfpdcoaa
