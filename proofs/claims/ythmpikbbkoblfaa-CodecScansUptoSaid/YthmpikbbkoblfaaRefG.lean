/- The reference's functions that read numbers, integers, texts, four bytes, frames. -/
import Derived.Test.YthmpikbbkoblfaaSame
import Derived.Test.YthmpikbbkoblfaaLead
namespace Go.Proofs.Ythmpikbbkoblfaa
open Go.RowKit
set_option linter.unusedVariables false
set_option linter.unusedSimpArgs false
attribute [local go_sem ↓] Go.wp_at_zero Go.wp_at_succ

set_option maxRecDepth 100000 in
set_option maxHeartbeats 1000000 in
theorem RUint_any (w : World) (v : Value) (l : List UInt8) (hv : RdB w v l) :
    Calls Try.prog 39 #[v] w fun e w' => e = .returned (.tuple #[.int .u64 (uintF l).1, .int .i64 (uintF l).2.1, .int .i64 (uintF l).2.2]) ∧ Below w.heap.size w w' := by
  obtain ⟨a, cap, rfl, h1, h2, h3, h4⟩ := id hv
  have h2 : cap ≤ 9223372036854775807 := by unfold maxLen at h2; omega
  have hL1 := lead_le 10 l
  have HB := hid (lead_big 10 l)
  have HE := hid (lead_end 10 l)
  have H10 := hid (uintF_ten l)
  have HA := hid (uintF_all l)
  have HL := hid (uintF_lead l)
  generalize lead 10 l = m at *
  have H4 := hid h4
  clear h4 h3
  go_enter Try.func39, Try.ntmps39
  go_wp2
  go_loop [5] (fun i => ∃ k : Nat, k ≤ m ∧ i = .int .i64 k) (fun i => 10 - (intOf i).toNat)
  case atStart => exact ⟨0, by omega, rfl⟩
  case round =>
    obtain ⟨k, hk, rfl⟩ := hrel
    by_cases hlt : k < m
    · have hkl : k < l.length := by omega
      have hbig := HB.out k hkl hlt
      obtain ⟨g, o, rfl, hg, hc⟩ := H4.out (by omega)
      have hck : w.cell? ⟨g, o + k, none⟩ = some (.int .u8 (l[k].toNat : Int)) := by rw [hc k (by omega), bvs_get l k hkl]
      clear hc
      generalize l[k] = c at hck hbig
      have hk10 : k < 10 := by omega
      go_wp2
      go_round
      case rel => exact ⟨k + 1, by omega, by go_num⟩
      case measure => simp [intOf]; omega
    · obtain rfl : k = m := by omega
      by_cases h10 : k = 10
      · subst h10
        have HF := hid (H10.out rfl)
        clear HB HE HA HL H10
        go_wp2
        all_goals
          go_ret3
          exact ⟨by rw [HF.out]; rfl, Below.refl _ _⟩
      · by_cases hall : k = l.length
        · subst hall
          have hk10 : l.length < 10 := by omega
          have HF := hid (HA.out rfl h10)
          clear HB HE HA HL H10
          go_wp2
          go_ret3
          exact ⟨by rw [HF.out]; rfl, Below.refl _ _⟩
        · have hk10 : k < 10 := by omega
          have hkl : k < l.length := by omega
          have hsm := HE.out hkl hk10
          obtain ⟨g, o, rfl, hg, hc⟩ := H4.out (by omega)
          have hck : w.cell? ⟨g, o + k, none⟩ = some (.int .u8 (l[k].toNat : Int)) := by rw [hc k (by omega), bvs_get l k hkl]
          have HF := hid (HL.out k rfl hk10 hkl)
          have HV := hid (putU_val l k hk10 hkl hsm)
          have HZ := hid (putU_val_zero l k hk10 hkl)
          have HC := hid hc
          clear hc HB HE H10 HA HL H4
          generalize hx : l[k] = c at hck hsm HF HV HZ
          have HX := hid hx
          clear hx
          have HD : Hid ((l.take (k + 1)).drop (k + 1) = []) := hid (List.drop_eq_nil_of_le (by simp; omega))
          have HVD := hid (valF_step l k)
          generalize hT : l.take (k + 1) = T at *
          have hx9 : ((c.toNat : Nat) : Int) < 128 := by omega
          go_wp2
          go_loop [6, 7] (fun n i => (∃ j : Nat, j ≤ k ∧ i = .int .i64 j ∧ n = .int .u64 ((valF (T.drop (j + 1)) % 18446744073709551616 : Nat) : Int)) ∨ (i = .int .i64 (-1) ∧ n = .int .u64 ((valF T % 18446744073709551616 : Nat) : Int))) (fun _ i => (intOf i + 1).toNat)
          case atStart => exact .inl ⟨k, Nat.le_refl _, rfl, by rw [HD.out]; rfl⟩
          case round =>
            rcases hrel with ⟨j, hj, rfl, rfl⟩ | ⟨rfl, rfl⟩
            · have hjl : j < l.length := by omega
              have hcj : w.cell? ⟨g, o + j, none⟩ = some (.int .u8 (l[j].toNat : Int)) := by rw [HC.out j (by omega), bvs_get l j hjl]
              have hvd := HVD.out j hj hjl
              have hVj := hid hvd
              clear hvd
              generalize l[j] = d at hcj hVj
              have hd := d.toNat_lt
              generalize hX : valF (T.drop (j + 1)) % 18446744073709551616 = X
              have hXlt : X < 18446744073709551616 := by rw [← hX]; exact Nat.mod_lt _ (by omega)
              have HXX := hid hX
              clear hX
              have hst : IntKind.u64.wrap (IntKind.u64.wrap ((X : Int) * 128) + ((d.toNat % 128 : Nat) : Int)) = ((valF (T.drop j) % 18446744073709551616 : Nat) : Int) := by
                rw [IntKind.wrap_u64, IntKind.wrap_u64, hVj.out, ← HXX.out]
                omega
              have HST := hid hst
              clear hst
              by_cases h0 : j = 0
              · subst h0
                rw [Nat.add_zero] at hcj
                go_wp2
                go_round
                case rel => exact .inr ⟨rfl, by have hst := HST.out; rw [List.drop_zero] at hst; rw [← hst]; go_num⟩
                case measure => simp [intOf]
              · have hj1 : ((j : Int) - 1) = ((j - 1 : Nat) : Int) := by omega
                have HJ := hid hj1
                clear hj1
                go_wp2
                go_round
                case rel => exact .inl ⟨j - 1, by omega, by rw [HJ.out], by rw [show j - 1 + 1 = j from by omega, ← HST.out]; go_num⟩
                case measure => simp [intOf] <;> omega
            · clear HVD HD
              obtain ⟨g', o', e0, _, hc⟩ : ∃ g' o', (some (⟨g, o, none⟩ : Addr)) = some ⟨g', o', none⟩ ∧ True ∧ True := ⟨_, _, rfl, trivial, trivial⟩
              clear e0 hc
              by_cases hz : (0 < k ∧ c.toNat = 0) ∨ (k = 9 ∧ 1 < c.toNat)
              · have HF2 : Hid (uintF l = (0, 0, 11)) := by show _ = _; rw [HF.out, if_pos hz]
                by_cases h9 : k = 9 ∧ 1 < c.toNat
                · obtain ⟨rfl, h9⟩ := h9
                  clear hz HF HV HZ
                  generalize hX : valF T % 18446744073709551616 = X
                  have hXlt : X < 18446744073709551616 := by rw [← hX]; exact Nat.mod_lt _ (by omega)
                  clear hX
                  go_wp2_with (go_at_call 51; go_must (refine (RPutUint_any _ X (by omega)).mono ?_; rintro e w1 ⟨v1, rfl, ho1, hb1⟩; obtain ⟨a1, c1, rfl⟩ := ho1.slice; have hck1 := (hb1.cell (p := ⟨g, o + 9, none⟩) hg).trans hck; have hpl := putU_len X))
                  all_goals
                    go_ret3
                    exact ⟨by rw [HF2.out]; rfl, hb1⟩
                · have hz1 : 0 < k ∧ c.toNat = 0 := by omega
                  obtain ⟨hz1, hz2⟩ := hz1
                  obtain ⟨hne, hlt64⟩ := HZ.out hz1 hz2
                  rw [Nat.mod_eq_of_lt hlt64]
                  clear hz HF HV HZ
                  generalize valF T = Y at hne hlt64
                  have hne1 : ¬ (((putU Y).length : Int) = (k : Int) + 1) := by omega
                  have hne2 : (((putU Y).length : Int) == (k : Int) + 1) = false := by simpa using hne1
                  have hne3 : (((putU Y).length : Int) != (k : Int) + 1) = true := by simpa using hne1
                  have hpl := putU_len Y
                  go_wp2_with (go_at_call 51; go_must (refine (RPutUint_any _ Y (by omega)).mono ?_; rintro e w1 ⟨v1, rfl, ho1, hb1⟩; obtain ⟨a1, c1, rfl⟩ := ho1.slice))
                  all_goals
                    go_ret3
                    exact ⟨by rw [HF2.out]; rfl, hb1⟩
              · obtain ⟨heq, hlt64⟩ := HV.out hz
                rw [Nat.mod_eq_of_lt hlt64]
                have HF2 : Hid (uintF l = (valF T, k + 1, 0)) := by show _ = _; rw [HF.out, if_neg hz]
                clear HF HV HZ
                generalize valF T = Y at heq hlt64 HF2
                have HEQ := hid heq
                clear heq
                by_cases h9 : k = 9
                · subst h9
                  have hc1 : ((c.toNat : Nat) : Int) ≤ 1 := by omega
                  go_wp2_with (go_at_call 51; go_must (refine (RPutUint_any _ Y (by omega)).mono ?_; rintro e w1 ⟨v1, rfl, ho1, hb1⟩; obtain ⟨a1, c1, rfl⟩ := ho1.slice; rw [HEQ.out]; have hck1 := (hb1.cell (p := ⟨g, o + 9, none⟩) hg).trans hck))
                  all_goals
                    go_ret3
                    exact ⟨by rw [HF2.out]; rfl, hb1⟩
                · have h91 : ¬ ((k : Int) = 9) := by omega
                  go_wp2_with (go_at_call 51; go_must (refine (RPutUint_any _ Y (by omega)).mono ?_; rintro e w1 ⟨v1, rfl, ho1, hb1⟩; obtain ⟨a1, c1, rfl⟩ := ho1.slice; rw [HEQ.out]))
                  all_goals
                    go_ret3
                    exact ⟨by rw [HF2.out]; rfl, hb1⟩

set_option maxRecDepth 100000 in
set_option maxHeartbeats 1000000 in
theorem RInt_any (w : World) (v : Value) (l : List UInt8) (hv : RdB w v l) :
    Calls Try.prog 41 #[v] w fun e w' => e = .returned (.tuple #[.int .i64 (unzig (uintF l).1), .int .i64 (uintF l).2.1, .int .i64 (uintF l).2.2]) ∧ Below w.heap.size w w' := by
  have hfc := uintF_facts l
  generalize hU : uintF l = r at hfc
  obtain ⟨n, k, er⟩ := r
  obtain ⟨f1, f2, f3, f4⟩ := hfc
  dsimp only at f1 f2 f3 f4 ⊢
  have HU := hid hU
  clear hU
  have HZ : Hid (unzig n = if n % 2 = 0 then ((n / 2 : Nat) : Int) else -((n / 2 : Nat) : Int) - 1) := rfl
  generalize unzig n = z at HZ
  rcases f4 with ⟨rfl, _⟩ | ⟨f4, rfl, rfl⟩
  · have hw1 : IntKind.i64.wrap ((n : Int) / 2) = (n : Int) / 2 := by rw [IntKind.wrap_i64]; omega
    by_cases h2 : n % 2 = 0
    · have h2' : (n : Int) % 2 = 0 := by omega
      have H2' := hid h2'
      have H2 := hid h2
      clear h2
      go_enter Try.func41, Try.ntmps41
      go_wp2_with (go_at_call 39; go_must (refine (RUint_any _ _ l hv).mono ?_; rintro e w1 ⟨rfl, hb1⟩; rw [HU.out]; dsimp only))
      go_ret3
      exact ⟨ret3 (by rw [HZ.out, if_pos H2.out]; omega) rfl rfl, hb1⟩
    · have h2' : (n : Int) % 2 = 1 := by omega
      have H2 := hid h2
      clear h2
      go_enter Try.func41, Try.ntmps41
      go_wp2_with (go_at_call 39; go_must (refine (RUint_any _ _ l hv).mono ?_; rintro e w1 ⟨rfl, hb1⟩; rw [HU.out]; dsimp only))
      go_ret3
      exact ⟨ret3 (by rw [HZ.out, if_neg H2.out]; omega) rfl rfl, hb1⟩
  · have he1 : ¬ ((er : Int) = 0) := by omega
    have HZ0 : Hid (z = 0) := by show _ = _; rw [HZ.out]; rfl
    go_enter Try.func41, Try.ntmps41
    go_wp2_with (go_at_call 39; go_must (refine (RUint_any _ _ l hv).mono ?_; rintro e w1 ⟨rfl, hb1⟩; rw [HU.out]; dsimp only))
    go_ret3
    exact ⟨by rw [HZ0.out]; rfl, hb1⟩

set_option maxRecDepth 100000 in
set_option maxHeartbeats 1000000 in
theorem RText_any (w : World) (v : Value) (l : List UInt8) (most : Int) (hm1 : -9223372036854775808 ≤ most) (hm2 : most ≤ 9223372036854775807) (hv : RdB w v l) :
    Calls Try.prog 43 #[v, .int .i64 most] w fun e w' => e = .returned (.tuple #[.string ⟨(textF l most).1.toArray⟩, .int .i64 (textF l most).2.1, .int .i64 (textF l most).2.2]) ∧ Below w.heap.size w w' := by
  have hfc := uintF_facts l
  obtain ⟨a, cap, rfl, h1, h2, h3, h4⟩ := id hv
  have h2 : cap ≤ 9223372036854775807 := by unfold maxLen at h2; omega
  clear h4 h3
  have HV := hid hv
  clear hv
  go_enter Try.func43, Try.ntmps43
  go_wp2_with fail
  refine (RUint_any w _ l HV.out).mono ?_
  rintro e w1 ⟨rfl, hb1⟩
  have HV1 := hid (HV.out.below hb1)
  generalize hu : uintF l = r at hfc ⊢
  obtain ⟨u, k, er⟩ := r
  obtain ⟨f1, f2, f3, f4⟩ := hfc
  dsimp only at f1 f2 f3 f4 ⊢
  have HU := hid hu
  clear hu
  have HF : Hid (textF l most = if er ≠ 0 then ([], 0, er) else if most < 0 ∨ most < (u : Int) then ([], 0, 12) else if l.length - k < u then ([], 0, 10) else ((l.drop k).take u, k + u, 0)) := by
    show _ = _
    rw [textF, HU.out]
  clear HU
  by_cases he : er = 0
  · subst he
    by_cases hneg : most < 0
    · go_wp2
      go_ret3
      refine ⟨?_, hb1⟩
      rw [HF.out, if_neg (by simp), if_pos (.inl hneg)]
      rfl
    · by_cases hlong : most < u
      · go_wp2
        go_ret3
        refine ⟨?_, hb1⟩
        rw [HF.out, if_neg (by simp), if_pos (.inr hlong)]
        rfl
      · by_cases hsh : l.length - k < u
        · go_wp2
          go_ret3
          refine ⟨?_, hb1⟩
          rw [HF.out, if_neg (by simp), if_neg (by omega), if_pos hsh]
          rfl
        · have hsub := RdB.cut HV1.out k (k + u) (by omega) (by omega)
          rw [show k + u - k = u from by omega] at hsub
          have hstr := run_strB hsub
          go_wp2_with ((with_reducible refine at_slice ?_); go_must (refine wl_slice_lh rfl rfl Try.underlying22 sizeU8 rfl rfl rfl k (k + u) rfl ?_ ?_ ?_ ?_; omega; omega; omega; rw [show k + u - k = u from by omega]))
          go_ret3
          refine ⟨?_, hb1⟩
          rw [HF.out, if_neg (by simp), if_neg (by omega), if_neg hsh]
          rfl
  · rcases f4 with f4 | ⟨f4, rfl, rfl⟩
    · exact absurd f4.1 he
    · rcases f4 with rfl | rfl
      all_goals
        go_wp2
        go_ret3
        refine ⟨?_, hb1⟩
        rw [HF.out]
        rfl

set_option maxRecDepth 100000 in
set_option maxHeartbeats 1000000 in
theorem RU32_any (w : World) (v : Value) (l : List UInt8) (hv : RdB w v l) :
    Calls Try.prog 45 #[v] w fun e w' => e = .returned (.tuple #[.int .u32 (u32F l).1, .int .i64 (u32F l).2]) ∧ w = w' := by
  obtain ⟨ad, cap, rfl, h1, h2, h3, h4⟩ := id hv
  have h2 : cap ≤ 9223372036854775807 := by unfold maxLen at h2; omega
  by_cases h : l.length < 4
  · clear h4
    go_enter Try.func45, Try.ntmps45
    go_wp2
    go_ret2
    refine ⟨?_, rfl⟩
    rw [show u32F l = (0, 10) from by
      match l, h with
      | [], _ => rfl
      | [_], _ => rfl
      | [_, _], _ => rfl
      | [_, _, _], _ => rfl]
    rfl
  · obtain ⟨a, b, c, d, r, rfl⟩ : ∃ a b c d r, l = a :: b :: c :: d :: r := by
      clear hv h1 h3 h4
      match l, h with
      | [], h => exact absurd (by simp) h
      | [_], h => exact absurd (by simp) h
      | [_, _], h => exact absurd (by simp) h
      | [_, _, _], h => exact absurd (by simp) h
      | a :: b :: c :: d :: r, _ => exact ⟨a, b, c, d, r, rfl⟩
    obtain ⟨g, o, rfl, hg, hc⟩ := h4 (by simp)
    have hcell : ∀ i (h : i < 4), w.cell? ⟨g, o + i, none⟩ = some (.int .u8 (([a, b, c, d][i]'(by simp; omega)).toNat : Int)) := by
      intro i h
      have := hc i (by simp; omega)
      rw [this, bvs_get _ i (by simp; omega)]
      congr 3
      match i, h with
      | 0, _ => rfl
      | 1, _ => rfl
      | 2, _ => rfl
      | 3, _ => rfl
    have HC := hid hcell
    have hn4 : (4 : Int) ≤ ((a :: b :: c :: d :: r).length : Int) := by simp; omega
    have HU : Hid (u32F (a :: b :: c :: d :: r) = (a.toNat + b.toNat * 256 + c.toNat * 65536 + d.toNat * 16777216, 0)) := rfl
    clear hc hv h3 hcell h
    generalize hL : (a :: b :: c :: d :: r) = L at *
    have HL := hid hL
    clear hL
    have hab := a.toNat_lt
    have hbb := b.toNat_lt
    have hcb := c.toNat_lt
    have hdb := d.toNat_lt
    go_enter Try.func45, Try.ntmps45
    go_wp2
    have hx0 := HC.out 0 (by omega)
    have hx1 := HC.out 1 (by omega)
    have hx2 := HC.out 2 (by omega)
    have hx3 := HC.out 3 (by omega)
    simp only [List.getElem_cons_zero, List.getElem_cons_succ, Nat.add_zero] at hx0 hx1 hx2 hx3
    clear HC
    obtain ⟨X1, hX1⟩ : ∃ X : Nat, X = d.toNat * 256 + c.toNat := ⟨_, rfl⟩
    obtain ⟨X2, hX2⟩ : ∃ X : Nat, X = X1 * 256 + b.toNat := ⟨_, rfl⟩
    obtain ⟨X3, hX3⟩ : ∃ X : Nat, X = a.toNat + b.toNat * 256 + c.toNat * 65536 + d.toNat * 16777216 := ⟨_, rfl⟩
    have l1 : X1 < 65536 := by omega
    have l2 : X2 < 16777216 := by omega
    have H1 := hid (show (d.toNat : Int) * 256 + (c.toNat : Int) = (X1 : Int) by omega)
    have H2 := hid (show (X1 : Int) * 256 + (b.toNat : Int) = (X2 : Int) by omega)
    have H3 := hid (show (X2 : Int) * 256 + (a.toNat : Int) = (X3 : Int) by omega)
    have HU3 : Hid (u32F L = (X3, 0)) := by show _ = _; rw [HU.out, hX3]
    clear hX1 hX2 hX3 HU
    go_loop [4, 5] (fun n i => (i = .int .i64 3 ∧ n = .int .u32 0) ∨ (i = .int .i64 2 ∧ n = .int .u32 ((d.toNat : Nat) : Int)) ∨ (i = .int .i64 1 ∧ n = .int .u32 (X1 : Int)) ∨ (i = .int .i64 0 ∧ n = .int .u32 (X2 : Int)) ∨ (i = .int .i64 (-1) ∧ n = .int .u32 (X3 : Int))) (fun _ i => (intOf i + 1).toNat)
    case atStart => exact .inl ⟨rfl, rfl⟩
    case round =>
      rcases hrel with ⟨rfl, rfl⟩ | ⟨rfl, rfl⟩ | ⟨rfl, rfl⟩ | ⟨rfl, rfl⟩ | ⟨rfl, rfl⟩
      · go_wp2
        go_round
        case rel => exact .inr (.inl ⟨rfl, by first | rfl | go_num⟩)
        case measure => simp [intOf]
      · go_wp2
        go_round
        case rel => exact .inr (.inr (.inl ⟨rfl, by rw [← H1.out]⟩))
        case measure => simp [intOf]
      · go_wp2
        go_round
        case rel => exact .inr (.inr (.inr (.inl ⟨rfl, by rw [← H2.out]⟩)))
        case measure => simp [intOf]
      · go_wp2
        go_round
        case rel => exact .inr (.inr (.inr (.inr ⟨rfl, by rw [← H3.out]⟩)))
        case measure => simp [intOf]
      · go_wp2
        go_ret2
        exact ⟨by rw [HU3.out]; rfl, rfl⟩
end Go.Proofs.Ythmpikbbkoblfaa
