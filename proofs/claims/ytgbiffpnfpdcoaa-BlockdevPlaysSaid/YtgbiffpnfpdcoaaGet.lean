/- The walks of codec's functions that read numbers, integers, texts, four bytes. -/
import Derived.Test.YtgbiffpnfpdcoaaPut
import Derived.Test.YtgbiffpnfpdcoaaGetA
import Derived.Deep.QuietTactic
import Derived.BigQuiet
namespace Go.Proofs.Ytgbiffpnfpdcoaa
open Go.RowKit
set_option linter.unusedVariables false
set_option linter.unusedSimpArgs false

set_option maxRecDepth 100000 in
set_option maxHeartbeats 400000 in
theorem U32_any (w : World) (v : Value) (l : List UInt8) (hv : RdB w v l) :
    Calls Try.prog 99 #[v] w fun e w' => e = .returned (.tuple #[.int .u32 (u32F l).1, .int .i64 (u32F l).2]) ∧ Below w.heap.size w w' := by
  obtain ⟨ad, cap, rfl, h1, h2, h3, h4⟩ := id hv
  have h2 : cap ≤ 9223372036854775807 := by unfold maxLen at h2; omega
  by_cases h : l.length < 4
  · clear h4
    go_enter Try.func99, Try.ntmps99
    go_wp2
    go_ret2
    refine ⟨?_, Below.refl _ _⟩
    rw [show u32F l = (0, 10) from by
      match l, h with
      | [], _ => rfl
      | [_], _ => rfl
      | [_, _], _ => rfl
      | [_, _, _], _ => rfl]
    rfl
  · obtain ⟨a, b, c, d, r, rfl⟩ : ∃ a b c d r, l = a :: b :: c :: d :: r := by
      clear hv h1 h3 h4
      match l, h with
      | [], h => exact absurd (by simp) h
      | [_], h => exact absurd (by simp) h
      | [_, _], h => exact absurd (by simp) h
      | [_, _, _], h => exact absurd (by simp) h
      | a :: b :: c :: d :: r, _ => exact ⟨a, b, c, d, r, rfl⟩
    obtain ⟨g, o, rfl, hg, hc⟩ := h4 (by simp)
    have c0 : w.cell? ⟨g, o, none⟩ = some (.int .u8 (a.toNat : Int)) := by simpa [bvs, bv] using hc 0 (by simp)
    have c1 : w.cell? ⟨g, o + 1, none⟩ = some (.int .u8 (b.toNat : Int)) := by simpa [bvs, bv] using hc 1 (by simp)
    have c2 : w.cell? ⟨g, o + 2, none⟩ = some (.int .u8 (c.toNat : Int)) := by simpa [bvs, bv] using hc 2 (by simp)
    have c3 : w.cell? ⟨g, o + 3, none⟩ = some (.int .u8 (d.toNat : Int)) := by simpa [bvs, bv] using hc 3 (by simp)
    have ha := a.toNat_lt
    have hb := b.toNat_lt
    have hc' := c.toNat_lt
    have hd := d.toNat_lt
    have hn1 : (0 : Int) < ((a :: b :: c :: d :: r).length : Int) := by simp; omega
    have hn2 : (1 : Int) < ((a :: b :: c :: d :: r).length : Int) := by simp; omega
    have hn3 : (2 : Int) < ((a :: b :: c :: d :: r).length : Int) := by simp; omega
    have hn4 : (3 : Int) < ((a :: b :: c :: d :: r).length : Int) := by simp; omega
    clear hc hv h3
    generalize hL : (a :: b :: c :: d :: r).length = L at *
    have HL := hid hL
    clear hL
    go_enter Try.func99, Try.ntmps99
    go_wp2
    go_quiet (fail)
    go_wp2
    go_ret2
    refine ⟨?_, below_drewN (Below.refl _ _) nq⟩
    have hE := u32_bits a.toNat b.toNat c.toNat d.toNat ha hb hc' hd
    show Ending.returned (.tuple #[.int .u32 _, .int .i64 0]) = _
    rw [hE]
    rfl

end Go.Proofs.Ytgbiffpnfpdcoaa
