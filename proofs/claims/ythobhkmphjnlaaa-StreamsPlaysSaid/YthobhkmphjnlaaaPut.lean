/- codec's PutInt, PutText, Put32, walked. -/
import Derived.Test.YthobhkmphjnlaaaPutA
namespace Go.Proofs.Ythobhkmphjnlaaa
open Go.RowKit
set_option linter.unusedVariables false
set_option linter.unusedSimpArgs false

set_option maxRecDepth 100000 in
set_option maxHeartbeats 400000 in
theorem PutInt_any (w : World) (v : Value) (l : List UInt8) (n : Int) (hv : RdB w v l) (h1 : -9223372036854775808 ≤ n) (h2 : n ≤ 9223372036854775807) (hl : l.length + 10 ≤ 140737488355328) :
    Calls Try.prog 50 #[v, .int .i64 n] w (NewB (l ++ putI n) w) := by
  go_enter Try.func50, Try.ntmps50
  go_wp2_with fail
  rw [zig_bits n h1 h2]
  refine (PutUint_any w v l (zig n) hv (zig_le n h1 h2) hl).mono ?_
  rintro e w' ⟨v', rfl, ho, hb⟩
  go_wp2
  go_ret
  exact ⟨v', rfl, ho, hb⟩

set_option maxRecDepth 100000 in
set_option maxHeartbeats 400000 in
theorem PutText_any (w : World) (v : Value) (l : List UInt8) (s : ByteArray) (hv : RdB w v l) (hs : s.size ≤ 9223372036854775807) (hl : l.length + 10 + s.size ≤ 140737488355328) :
    Calls Try.prog 57 #[v, .string s] w (NewB (l ++ putT s.data.toList) w) := by
  have hsl : s.data.toList.length = s.size := by rw [Array.length_toList]; rfl
  have hpl := putU_len s.size
  go_enter Try.func57, Try.ntmps57
  go_wp2_with fail
  refine (PutUint_any w v l s.size hv (by omega) (by omega)).mono ?_
  rintro e w1 ⟨v1, rfl, ho, hb⟩
  have hb1 := hb.size
  go_wp2_with (at_builtin; go_must (refine wl_appB rfl _ _ _ rfl w.heap.size v1 (l ++ putU s.size) rfl (appB_own ho) _ s.data.toList rfl (src_str _ _) ?_ ?_ ?_; (first | omega | (simp only [List.length_cons, List.length_nil, List.length_append, le32]; omega)); (first | omega | (simp only [World.alloc, Array.size_push]; omega)); intro v' w' k1 k2 k3 k4 k5 k6))
  go_ret
  refine ⟨v', rfl, ?_, hb.trans k5⟩
  rw [putT, hsl, ← List.append_assoc]
  exact k3 ho

set_option maxRecDepth 100000 in
set_option maxHeartbeats 400000 in
theorem Put32_any (w : World) (v : Value) (l : List UInt8) (n : Nat) (hv : RdB w v l) (hn : n ≤ 4294967295) (hl : l.length + 10 ≤ 140737488355328) :
    Calls Try.prog 85 #[v, .int .u32 n] w (NewB (l ++ le32 n) w) := by
  obtain ⟨a, cap, rfl, h1, h2, h3, h4⟩ := id hv
  have h2 : cap ≤ 9223372036854775807 := by unfold maxLen at h2; omega
  have Happ : AppB w w.heap.size (.slice a l.length l.length) l := full_app hv
  have Hc : Hid ([Value.int .u8 ((n : Int) % 256), .int .u8 ((n : Int) / 256 % 256), .int .u8 ((n : Int) / 65536 % 256), .int .u8 ((n : Int) / 16777216)] = bvs (le32 n)) := by
    show _ = _
    simp only [le32, bvs, bv, List.map_cons, List.map_nil, UInt8.toNat_ofNat']
    simp only [List.cons.injEq, Value.int.injEq, true_and, and_true]
    omega
  clear h3 h4
  go_enter Try.func85, Try.ntmps85
  go_wp2_with (first | (go_at_call 59; refine (room_any _ _ _ _ h1 h2).mono ?_; rintro e w' ⟨rfl, rfl⟩) | (at_builtin; go_must (refine wl_appB rfl _ _ _ rfl w.heap.size (.slice a l.length l.length) l rfl (Happ.alloc _) _ (le32 n) rfl (src_blk w _ _ _ rfl Hc.out) ?_ ?_ ?_; (first | omega | (simp only [List.length_cons, List.length_nil, List.length_append, le32]; omega)); (first | omega | (simp only [World.alloc, Array.size_push]; omega)); intro v' w' k1 k2 k3 k4 k5 k6)))
  go_ret
  exact ⟨v', rfl, k2 (by simp [le32]), ((Below.refl _ _).alloc (Nat.le_refl _) _).trans k5⟩

end Go.Proofs.Ythobhkmphjnlaaa
