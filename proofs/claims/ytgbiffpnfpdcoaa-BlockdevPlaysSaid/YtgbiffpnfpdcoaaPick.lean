/- The laws' own helper Pick, walked. -/
import Derived.Test.YtgbiffpnfpdcoaaPutA
namespace Go.Proofs.Ytgbiffpnfpdcoaa
open Go.RowKit
set_option linter.unusedVariables false
set_option linter.unusedSimpArgs false

set_option maxRecDepth 100000 in
set_option maxHeartbeats 400000 in
theorem Pick_any (w : World) (c : Int) (n : Int) (h1 : -9223372036854775808 ≤ c ∧ c ≤ 9223372036854775807) (hn : 0 < n) (hn2 : n ≤ 9223372036854775807) :
    Calls Try.prog 26 #[.int .i64 c, .int .i64 n] w fun e w' => e = .returned (.int .i64 ((pickF c n.toNat : Nat) : Int)) ∧ w = w' := by
  obtain ⟨h1, h2⟩ := h1
  have hp := pickF_cast c n.toNat (by omega)
  rw [Int.toNat_of_nonneg (by omega)] at hp
  have HP := hid hp
  clear hp
  by_cases hc : c < 0
  · go_enter Try.func26, Try.ntmps26
    go_wp2
    go_ret
    exact ⟨by rw [HP.out, if_pos hc, ← Int.tmod_eq_emod_of_nonneg (by omega), Int.neg_tmod]; rfl, rfl⟩
  · go_enter Try.func26, Try.ntmps26
    go_wp2
    go_ret
    exact ⟨by rw [HP.out, if_neg (by omega)]; rfl, rfl⟩

end Go.Proofs.Ytgbiffpnfpdcoaa
