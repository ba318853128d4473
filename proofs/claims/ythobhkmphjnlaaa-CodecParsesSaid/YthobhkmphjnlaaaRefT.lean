/- The reference's PutInt, PutText, walked. -/
import Derived.Test.YthobhkmphjnlaaaRdr
import Derived.Test.YthobhkmphjnlaaaRefU
import Derived.Test.YthobhkmphjnlaaaPut
namespace Go.Proofs.Ythobhkmphjnlaaa
open Go.RowKit
set_option linter.unusedVariables false
set_option linter.unusedSimpArgs false
attribute [local go_sem ↓] Go.wp_at_zero Go.wp_at_succ

set_option maxRecDepth 100000 in
set_option maxHeartbeats 400000 in
theorem RPutInt_any (w : World) (n : Int) (h1 : -9223372036854775808 ≤ n) (h2 : n ≤ 9223372036854775807) :
    Calls Try.prog 62 #[.int .i64 n] w (NewB (putI n) w) := by
  by_cases h : 0 ≤ n
  · have hz : zig n = (2 * n).toNat := by unfold zig; rw [if_pos h]
    have he : (2 : Int) * n = ((zig n : Nat) : Int) := by omega
    have hzl := zig_le n h1 h2
    have HE := hid he
    clear he hz
    go_enter Try.func62, Try.ntmps62
    go_wp2_with fail
    rw [HE.out]
    refine (RPutUint_any w (zig n) hzl).mono ?_
    rintro e w1 ⟨v1, rfl, ho, hb⟩
    go_wp2
    go_ret
    exact ⟨v1, rfl, ho, hb⟩
  · have hz : zig n = (-2 * n - 1).toNat := by unfold zig; rw [if_neg h]
    have he : (2 : Int) * (-(n + 1)) + 1 = ((zig n : Nat) : Int) := by omega
    have hzl := zig_le n h1 h2
    have HE := hid he
    clear he hz
    go_enter Try.func62, Try.ntmps62
    go_wp2_with fail
    rw [HE.out]
    refine (RPutUint_any w (zig n) hzl).mono ?_
    rintro e w1 ⟨v1, rfl, ho, hb⟩
    go_wp2
    go_ret
    exact ⟨v1, rfl, ho, hb⟩

set_option maxRecDepth 100000 in
set_option maxHeartbeats 400000 in
theorem RPutText_any (w : World) (s : ByteArray) (hl : s.size + 10 ≤ 140737488355328) :
    Calls Try.prog 60 #[.string s] w (NewB (putT s.data.toList) w) := by
  have hsl : s.data.toList.length = s.size := by rw [Array.length_toList]; rfl
  have hpl := putU_len s.size
  go_enter Try.func60, Try.ntmps60
  go_wp2_with fail
  refine (RPutUint_any w s.size (by omega)).mono ?_
  rintro e w1 ⟨v1, rfl, ho, hb⟩
  have hb1 := hb.size
  go_wp2_with (at_builtin; go_must (refine wl_appB rfl _ _ _ rfl w.heap.size v1 (putU s.size) rfl (appB_own ho) _ s.data.toList rfl (src_str _ _) ?_ ?_ ?_; (first | omega | (simp only [List.length_cons, List.length_nil, List.length_append, le32]; omega)); (first | omega | (simp only [World.alloc, Array.size_push]; omega)); intro v' w' k1 k2 k3 k4 k5 k6))
  go_ret
  refine ⟨v', rfl, ?_, hb.trans k5⟩
  rw [putT, hsl]
  exact k3 ho

end Go.Proofs.Ythobhkmphjnlaaa
