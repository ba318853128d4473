/- The reference's Uint, walked. -/
import Derived.Test.YtbpcgfplokkfpaaRefU
import Derived.Test.YtbpcgfplokkfpaaGetA
import Derived.Test.YtbpcgfplokkfpaaLead
namespace Go.Proofs.Ytbpcgfplokkfpaa
open Go.RowKit
set_option linter.unusedVariables false
set_option linter.unusedSimpArgs false
attribute [local go_sem ↓] Go.wp_at_zero Go.wp_at_succ

set_option maxRecDepth 100000 in
set_option maxHeartbeats 1000000 in
theorem RUint_any (w : World) (v : Value) (l : List UInt8) (hv : RdB w v l) :
    Calls Try.prog 78 #[v] w fun e w' => e = .returned (.tuple #[.int .u64 (uintF l).1, .int .i64 (uintF l).2.1, .int .i64 (uintF l).2.2]) ∧ Below w.heap.size w w' := by
  obtain ⟨a, cap, rfl, h1, h2, h3, h4⟩ := id hv
  have h2 : cap ≤ 9223372036854775807 := by unfold maxLen at h2; omega
  have hL1 := lead_le 10 l
  have HB := hid (lead_big 10 l)
  have HE := hid (lead_end 10 l)
  have H10 := hid (uintF_ten l)
  have HA := hid (uintF_all l)
  have HL := hid (uintF_lead l)
  generalize lead 10 l = m at *
  have H4 := hid h4
  clear h4 h3
  go_enter Try.func78, Try.ntmps78
  go_wp2
  go_loop [5] (fun i => ∃ k : Nat, k ≤ m ∧ i = .int .i64 k) (fun i => 10 - (intOf i).toNat)
  case atStart => exact ⟨0, by omega, rfl⟩
  case round =>
    obtain ⟨k, hk, rfl⟩ := hrel
    by_cases hlt : k < m
    · have hkl : k < l.length := by omega
      have hbig := HB.out k hkl hlt
      obtain ⟨g, o, rfl, hg, hc⟩ := H4.out (by omega)
      have hck : w.cell? ⟨g, o + k, none⟩ = some (.int .u8 (l[k].toNat : Int)) := by rw [hc k (by omega), bvs_get l k hkl]
      clear hc
      generalize l[k] = c at hck hbig
      have hk10 : k < 10 := by omega
      go_wp2
      go_round
      case rel => exact ⟨k + 1, by omega, by go_num⟩
      case measure => simp [intOf]; omega
    · obtain rfl : k = m := by omega
      by_cases h10 : k = 10
      · subst h10
        have HF := hid (H10.out rfl)
        clear HB HE HA HL H10
        go_wp2
        all_goals
          go_ret3
          exact ⟨by rw [HF.out]; rfl, Below.refl _ _⟩
      · by_cases hall : k = l.length
        · subst hall
          have hk10 : l.length < 10 := by omega
          have HF := hid (HA.out rfl h10)
          clear HB HE HA HL H10
          go_wp2
          go_ret3
          exact ⟨by rw [HF.out]; rfl, Below.refl _ _⟩
        · have hk10 : k < 10 := by omega
          have hkl : k < l.length := by omega
          have hsm := HE.out hkl hk10
          obtain ⟨g, o, rfl, hg, hc⟩ := H4.out (by omega)
          have hck : w.cell? ⟨g, o + k, none⟩ = some (.int .u8 (l[k].toNat : Int)) := by rw [hc k (by omega), bvs_get l k hkl]
          have HF := hid (HL.out k rfl hk10 hkl)
          have HV := hid (putU_val l k hk10 hkl hsm)
          have HZ := hid (putU_val_zero l k hk10 hkl)
          have HC := hid hc
          clear hc HB HE H10 HA HL H4
          generalize hx : l[k] = c at hck hsm HF HV HZ
          have HX := hid hx
          clear hx
          have HD : Hid ((l.take (k + 1)).drop (k + 1) = []) := hid (List.drop_eq_nil_of_le (by simp; omega))
          have HVD := hid (valF_step l k)
          generalize hT : l.take (k + 1) = T at *
          have hx9 : ((c.toNat : Nat) : Int) < 128 := by omega
          go_wp2
          go_loop [6, 7] (fun n i => (∃ j : Nat, j ≤ k ∧ i = .int .i64 j ∧ n = .int .u64 ((valF (T.drop (j + 1)) % 18446744073709551616 : Nat) : Int)) ∨ (i = .int .i64 (-1) ∧ n = .int .u64 ((valF T % 18446744073709551616 : Nat) : Int))) (fun _ i => (intOf i + 1).toNat)
          case atStart => exact .inl ⟨k, Nat.le_refl _, rfl, by rw [HD.out]; rfl⟩
          case round =>
            rcases hrel with ⟨j, hj, rfl, rfl⟩ | ⟨rfl, rfl⟩
            · have hjl : j < l.length := by omega
              have hcj : w.cell? ⟨g, o + j, none⟩ = some (.int .u8 (l[j].toNat : Int)) := by rw [HC.out j (by omega), bvs_get l j hjl]
              have hvd := HVD.out j hj hjl
              have hVj := hid hvd
              clear hvd
              generalize l[j] = d at hcj hVj
              have hd := d.toNat_lt
              generalize hX : valF (T.drop (j + 1)) % 18446744073709551616 = X
              have hXlt : X < 18446744073709551616 := by rw [← hX]; exact Nat.mod_lt _ (by omega)
              have HXX := hid hX
              clear hX
              have hst : IntKind.u64.wrap (IntKind.u64.wrap ((X : Int) * 128) + ((d.toNat % 128 : Nat) : Int)) = ((valF (T.drop j) % 18446744073709551616 : Nat) : Int) := by
                rw [IntKind.wrap_u64, IntKind.wrap_u64, hVj.out, ← HXX.out]
                omega
              have HST := hid hst
              clear hst
              by_cases h0 : j = 0
              · subst h0
                rw [Nat.add_zero] at hcj
                go_wp2
                go_round
                case rel => exact .inr ⟨rfl, by have hst := HST.out; rw [List.drop_zero] at hst; rw [← hst]; go_num⟩
                case measure => simp [intOf]
              · have hj1 : ((j : Int) - 1) = ((j - 1 : Nat) : Int) := by omega
                have HJ := hid hj1
                clear hj1
                go_wp2
                go_round
                case rel => exact .inl ⟨j - 1, by omega, by rw [HJ.out], by rw [show j - 1 + 1 = j from by omega, ← HST.out]; go_num⟩
                case measure => simp [intOf] <;> omega
            · clear HVD HD
              obtain ⟨g', o', e0, _, hc⟩ : ∃ g' o', (some (⟨g, o, none⟩ : Addr)) = some ⟨g', o', none⟩ ∧ True ∧ True := ⟨_, _, rfl, trivial, trivial⟩
              clear e0 hc
              by_cases hz : (0 < k ∧ c.toNat = 0) ∨ (k = 9 ∧ 1 < c.toNat)
              · have HF2 : Hid (uintF l = (0, 0, 11)) := by show _ = _; rw [HF.out, if_pos hz]
                by_cases h9 : k = 9 ∧ 1 < c.toNat
                · obtain ⟨rfl, h9⟩ := h9
                  clear hz HF HV HZ
                  generalize hX : valF T % 18446744073709551616 = X
                  have hXlt : X < 18446744073709551616 := by rw [← hX]; exact Nat.mod_lt _ (by omega)
                  clear hX
                  go_wp2_with (go_at_call 80; go_must (refine (RPutUint_any _ X (by omega)).mono ?_; rintro e w1 ⟨v1, rfl, ho1, hb1⟩; obtain ⟨a1, c1, rfl⟩ := ho1.slice; have hck1 := (hb1.cell (p := ⟨g, o + 9, none⟩) hg).trans hck; have hpl := putU_len X))
                  all_goals
                    go_ret3
                    exact ⟨by rw [HF2.out]; rfl, hb1⟩
                · have hz1 : 0 < k ∧ c.toNat = 0 := by omega
                  obtain ⟨hz1, hz2⟩ := hz1
                  obtain ⟨hne, hlt64⟩ := HZ.out hz1 hz2
                  rw [Nat.mod_eq_of_lt hlt64]
                  clear hz HF HV HZ
                  generalize valF T = Y at hne hlt64
                  have hne1 : ¬ (((putU Y).length : Int) = (k : Int) + 1) := by omega
                  have hne2 : (((putU Y).length : Int) == (k : Int) + 1) = false := by simpa using hne1
                  have hne3 : (((putU Y).length : Int) != (k : Int) + 1) = true := by simpa using hne1
                  have hpl := putU_len Y
                  go_wp2_with (go_at_call 80; go_must (refine (RPutUint_any _ Y (by omega)).mono ?_; rintro e w1 ⟨v1, rfl, ho1, hb1⟩; obtain ⟨a1, c1, rfl⟩ := ho1.slice))
                  all_goals
                    go_ret3
                    exact ⟨by rw [HF2.out]; rfl, hb1⟩
              · obtain ⟨heq, hlt64⟩ := HV.out hz
                rw [Nat.mod_eq_of_lt hlt64]
                have HF2 : Hid (uintF l = (valF T, k + 1, 0)) := by show _ = _; rw [HF.out, if_neg hz]
                clear HF HV HZ
                generalize valF T = Y at heq hlt64 HF2
                have HEQ := hid heq
                clear heq
                by_cases h9 : k = 9
                · subst h9
                  have hc1 : ((c.toNat : Nat) : Int) ≤ 1 := by omega
                  go_wp2_with (go_at_call 80; go_must (refine (RPutUint_any _ Y (by omega)).mono ?_; rintro e w1 ⟨v1, rfl, ho1, hb1⟩; obtain ⟨a1, c1, rfl⟩ := ho1.slice; rw [HEQ.out]; have hck1 := (hb1.cell (p := ⟨g, o + 9, none⟩) hg).trans hck))
                  all_goals
                    go_ret3
                    exact ⟨by rw [HF2.out]; rfl, hb1⟩
                · have h91 : ¬ ((k : Int) = 9) := by omega
                  go_wp2_with (go_at_call 80; go_must (refine (RPutUint_any _ Y (by omega)).mono ?_; rintro e w1 ⟨v1, rfl, ho1, hb1⟩; obtain ⟨a1, c1, rfl⟩ := ho1.slice; rw [HEQ.out]))
                  all_goals
                    go_ret3
                    exact ⟨by rw [HF2.out]; rfl, hb1⟩

end Go.Proofs.Ytbpcgfplokkfpaa
