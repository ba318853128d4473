/- cartularylaw04.JournalNone, walked. -/
import Derived.Test.YtgbiffpnfpdcoaaJ6
namespace Go.Proofs.Ytgbiffpnfpdcoaa
open Go.RowKit Go.Maps
set_option linter.unusedVariables false
set_option linter.unusedSimpArgs false

set_option maxRecDepth 100000 in
set_option maxHeartbeats 2000000 in
theorem journalNone_walk (w : World) (n : Int) (hn : -9223372036854775808 ≤ n ∧ n ≤ 9223372036854775807) (v2 : Value) (data : List UInt8) (hd : RdB w v2 data) (_ : data.length ≤ 140737488351232) :
    Calls Try.prog 15 #[.int .i64 n, v2] w fun e w' => e = .returned (.bool true) ∧ Below w.heap.size w w' := by
  obtain ⟨va, vc, rfl⟩ := hd.slice'
  clear hd
  go_enter Try.func15, Try.ntmps15
  go_wp2_with fail
  refine (awake04_any w).mono ?_
  rintro e w1 ⟨rfl, hx1⟩
  have HX1 := hid hx1
  clear hx1
  go_wp2_with fail
  refine (BNew_ok w1 64 (by omega) (by omega)).mono ?_
  rintro e w2 ⟨g, rfl, ⟨ρ, hd, hn'⟩, hx⟩
  have HM := hid (show Mine w w2 g ρ 0 (dv0 64) from ⟨hd, fun k hk => Nat.le_trans HX1.out.size (hn' k hk), HX1.out.trans hx⟩)
  clear hd hn' hx
  have hc := calm_new 64
  have hl := load_calm hc (n := 0) (by decide)
  obtain ⟨d', c', l', cu', e'⟩ := hl
  have hz0 : curF (dv0 64) 0 = zb := cur_new (by omega) (by omega)
  have hz1 : curF (dv0 64) (0 + 1) = zb := cur_new (by omega) (by omega)
  rw [hz0, hz1, slF_zb, if_pos (by decide)] at e'
  have HE := hid e'
  clear hc c' l' cu' e' hz0 hz1
  go_wp2_with fail
  refine (JRead_nil w2 n).mono ?_
  rintro e w3 ⟨rfl, rfl⟩
  go_wp2_with fail
  refine (Open_none HM.out (by omega) (by rw [HE.out]) (by rw [HE.out])).mono ?_
  rintro e w4 ⟨rfl, hm4⟩
  have HM4 := hid hm4
  clear hm4
  go_wp2_with fail
  refine (Open_nil w4).mono ?_
  rintro e w5 ⟨rfl, rfl⟩
  go_wp2_with fail
  refine (JPut_nil w4 n _).mono ?_
  rintro e w5 ⟨rfl, rfl⟩
  go_wp2_with fail
  refine (Commit_nil w4).mono ?_
  rintro e w5 ⟨rfl, hx5⟩
  have HX5 := hid hx5
  clear hx5
  go_wp2_with fail
  refine (Size_nil w5).mono ?_
  rintro e w6 ⟨rfl, rfl⟩
  go_wp2_with fail
  refine (JFormat_nil w5).mono ?_
  rintro e w6 ⟨rfl, rfl⟩
  go_wp2_with fail
  go_ret
  exact ⟨rfl, HM4.out.ex.trans HX5.out⟩
end Go.Proofs.Ytgbiffpnfpdcoaa
