/- codec.Uint, walked. -/
import Derived.Test.YthobhkmphjnlaaaPutA
import Derived.Deep.QuietTactic
import Derived.BigQuiet
namespace Go.Proofs.Ythobhkmphjnlaaa
open Go.RowKit
set_option linter.unusedVariables false
set_option linter.unusedSimpArgs false

theorem ret3 {k1 k2 k3 : IntKind} {a a' b b' c c' : Int} (h1 : a = a') (h2 : b = b') (h3 : c = c') : Ending.returned (.tuple #[.int k1 a, .int k2 b, .int k3 c]) = Ending.returned (.tuple #[.int k1 a', .int k2 b', .int k3 c']) := by
  rw [h1, h2, h3]

set_option maxRecDepth 100000 in
set_option maxHeartbeats 400000 in
theorem Uint_any (w : World) (v : Value) (l : List UInt8) (hv : RdB w v l) :
    Calls Try.prog 46 #[v] w fun e w' => e = .returned (.tuple #[.int .u64 (uintF l).1, .int .i64 (uintF l).2.1, .int .i64 (uintF l).2.2]) ∧ w = w' := by
  obtain ⟨a, cap, rfl, h1, h2, h3, h4⟩ := id hv
  have h2 : cap ≤ 9223372036854775807 := by unfold maxLen at h2; omega
  have H4 := hid h4
  clear h4 h3
  go_enter Try.func46, Try.ntmps46
  go_wp2
  go_loop [5, 8] (fun n i => ∃ k x m : Nat, k ≤ 10 ∧ k ≤ l.length ∧ i = .int .i64 k ∧ n = .int .u64 x ∧ uintF l = uintGo (10 - k) k m (l.drop k) ∧ (k < 10 → x = m ∧ m < 128 ^ k)) (fun _ i => 10 - (intOf i).toNat)
  case atStart => exact ⟨0, 0, 0, by omega, by omega, rfl, rfl, rfl, fun _ => ⟨rfl, by simp⟩⟩
  case round =>
    obtain ⟨k, x, m, hk, hkl, rfl, rfl, heq, hxm⟩ := hrel
    have HE := hid heq
    clear heq
    by_cases hlt : k < 10
    · obtain ⟨rfl, hm⟩ := hxm hlt
      have Hf := hid (show ∃ f, 10 - k = f + 1 from ⟨9 - k, by omega⟩)
      by_cases hl : k < l.length
      · obtain ⟨g, o, rfl, hg, hc⟩ := H4.out (by omega)
        have hck : w.cell? ⟨g, o + k, none⟩ = some (.int .u8 (l[k].toNat : Int)) := by rw [hc k (by omega), bvs_get l k hl]
        have Hd := hid (List.drop_eq_getElem_cons hl)
        clear hc
        generalize l[k] = c at hck Hd
        have hcb : c.toNat < 256 := c.toNat_lt
        have HF : Hid (uintF l = if 128 ≤ c.toNat then uintGo (9 - k) (k + 1) (x + c.toNat % 128 * 128 ^ k) (l.drop (k + 1)) else if (0 < k ∧ c.toNat = 0) ∨ (k = 9 ∧ 1 < c.toNat) then (0, 0, 11) else (x + c.toNat % 128 * 128 ^ k, k + 1, 0)) := by
          obtain ⟨f, hf⟩ := Hf.out
          show uintF l = _
          rw [HE.out, Hd.out, hf, show 9 - k = f from by omega]
          rfl
        by_cases hbig : 128 ≤ c.toNat
        · go_wp2
          go_round
          case rel =>
            have HF := HF.out
            rw [if_pos hbig] at HF
            have he : uintF l = uintGo (10 - (k + 1)) (k + 1) (x + c.toNat % 128 * 128 ^ k) (l.drop (k + 1)) := by rw [HF, show 10 - (k + 1) = 9 - k from by omega]
            by_cases h9 : k = 9
            · have hE : ∃ X : Nat, bits BinOp.or IntKind.u64 ↑x (IntKind.u64.wrap (IntKind.u64.wrap (bits BinOp.and IntKind.u8 (↑c.toNat) 127) * 2 ^ (7 * k))) = (X : Int) := bits_u64_nat _ _ _
              obtain ⟨X, hX⟩ := hE
              exact ⟨k + 1, X, x + c.toNat % 128 * 128 ^ k, by omega, by omega, by go_num, by rw [hX], he, fun h => absurd h (by omega)⟩
            · exact ⟨k + 1, _, x + c.toNat % 128 * 128 ^ k, by omega, by omega, by go_num, by rw [acc_step x k _ (by omega) hm hcb], he, fun _ => ⟨rfl, acc_lt _ _ _ hm⟩⟩
          case measure => simp [intOf]; omega
        · by_cases hz : (0 < k ∧ c.toNat = 0) ∨ (k = 9 ∧ 1 < c.toNat)
          · have HF2 : Hid (uintF l = (0, 0, 11)) := by show _ = _; rw [HF.out, if_neg hbig, if_pos hz]
            rcases hz with ⟨hz1, hz2⟩ | ⟨hz1, hz2⟩
            · clear hbig
              go_wp2
              go_ret3
              exact ⟨by rw [HF2.out]; rfl, rfl⟩
            · subst hz1
              go_wp2
              all_goals (go_ret3; exact ⟨by rw [HF2.out]; rfl, rfl⟩)
          · go_wp2
            all_goals go_ret3
            all_goals (refine ⟨?_, rfl⟩; rw [HF.out, if_neg hbig, if_neg hz]; exact ret3 (acc_step x k _ (by omega) hm hcb) (by dsimp only; omega) rfl)
      · obtain rfl : k = l.length := by omega
        go_wp2
        go_ret3
        refine ⟨?_, rfl⟩
        obtain ⟨f, hf⟩ := Hf.out
        rw [HE.out, hf, List.drop_length]; rfl
    · clear hxm
      obtain rfl : k = 10 := by omega
      go_wp2
      go_ret3
      refine ⟨?_, rfl⟩
      rw [HE.out]; rfl

end Go.Proofs.Ythobhkmphjnlaaa
