/- codec's PutInt, PutText, Put32, walked. -/
import Derived.Test.YtgbiffpnfpdcoaaPutA
namespace Go.Proofs.Ytgbiffpnfpdcoaa
open Go.RowKit
set_option linter.unusedVariables false
set_option linter.unusedSimpArgs false

set_option maxRecDepth 100000 in
set_option maxHeartbeats 400000 in
theorem Put32_any (w : World) (v : Value) (l : List UInt8) (n : Nat) (hv : RdB w v l) (hn : n ≤ 4294967295) (hl : l.length + 10 ≤ 140737488355328) :
    Calls Try.prog 93 #[v, .int .u32 n] w (NewB (l ++ le32 n) w) := by
  obtain ⟨a, cap, rfl, h1, h2, h3, h4⟩ := id hv
  have h2 : cap ≤ 9223372036854775807 := by unfold maxLen at h2; omega
  have Happ : AppB w w.heap.size (.slice a l.length l.length) l := full_app hv
  have Hc : Hid ([Value.int .u8 ((n : Int) % 256), .int .u8 ((n : Int) / 256 % 256), .int .u8 ((n : Int) / 65536 % 256), .int .u8 ((n : Int) / 16777216)] = bvs (le32 n)) := by
    show _ = _
    simp only [le32, bvs, bv, List.map_cons, List.map_nil, UInt8.toNat_ofNat']
    simp only [List.cons.injEq, Value.int.injEq, true_and, and_true]
    omega
  clear h3 h4
  go_enter Try.func93, Try.ntmps93
  go_wp2_with (first | (go_at_call 95; refine (room_any _ _ _ _ h1 h2).mono ?_; rintro e w' ⟨rfl, rfl⟩) | (at_builtin; go_must (refine wl_appB rfl _ _ _ rfl w.heap.size (.slice a l.length l.length) l rfl (Happ.alloc _) _ (le32 n) rfl (src_blk w _ _ _ rfl Hc.out) ?_ ?_ ?_; (first | omega | (simp only [List.length_cons, List.length_nil, List.length_append, le32]; omega)); (first | omega | (simp only [World.alloc, Array.size_push]; omega)); intro v' w' k1 k2 k3 k4 k5 k6)))
  go_ret
  exact ⟨v', rfl, k2 (by simp [le32]), ((Below.refl _ _).alloc (Nat.le_refl _) _).trans k5⟩

end Go.Proofs.Ytgbiffpnfpdcoaa
