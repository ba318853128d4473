/- The laws' own helper behind, walked. -/
import Derived.Test.YthobhkmphjnlaaaLent
namespace Go.Proofs.Ythobhkmphjnlaaa
open Go.RowKit
set_option linter.unusedVariables false
set_option linter.unusedSimpArgs false

set_option maxRecDepth 100000 in
set_option maxHeartbeats 1000000 in
theorem behind_any (w : World) (base : Nat) (gv vb vl : Value) (l lb ll : List UInt8) (hl : l = lb ++ ll) (hg : OwnB w base gv l) (hb : RdB w vb lb) (hr : RdB w vl ll) (hlen : l.length ≤ 140737488355328) (hbase : base ≤ w.heap.size) :
    Calls Try.prog 33 #[gv, vb, vl] w fun e w' => e = .returned (.bool true) ∧ Below base w w' := by
  obtain ⟨a, cap, rfl⟩ := hg.slice
  have s1 := run_strB (rdB_own hg)
  have s2 := run_strB hb
  have s3 := run_strB hr
  have hs : (⟨lb.toArray⟩ : ByteArray) ++ (⟨ll.toArray⟩ : ByteArray) = ⟨l.toArray⟩ := by
    subst hl
    apply ByteArray.ext
    simp
  have hsz : ¬ 9223372036854775807 < (⟨lb.toArray⟩ : ByteArray).size + (⟨ll.toArray⟩ : ByteArray).size := by
    have := congrArg List.length hl
    simp only [List.length_append] at this
    show ¬ 9223372036854775807 < lb.toArray.size + ll.toArray.size
    simp only [List.size_toArray]
    omega
  clear hl
  have hc : l.length = 0 ∧ a = none ∨ ∃ g, a = some ⟨g, 0, none⟩ ∧ base ≤ g := by
    rcases hg.2 with ⟨e, h0⟩ | ⟨g, cap', cur, e, hB, _⟩
    · simp only [Value.slice.injEq] at e
      exact .inl ⟨e.2.1, e.1⟩
    · simp only [Value.slice.injEq] at e
      exact .inr ⟨g, e.1, hB⟩
  have HG := hid hg
  have HS := hid hs
  have HC := hid hc
  clear hg hc hb hr
  generalize (⟨l.toArray⟩ : ByteArray) = sl at *
  generalize (⟨lb.toArray⟩ : ByteArray) = sb at *
  generalize (⟨ll.toArray⟩ : ByteArray) = sr at *
  go_enter Try.func33, Try.ntmps33
  go_wp2_with fail
  clear s1 s2 s3 hs
  go_loopw [8] (fun i wr => ∃ k : Nat, k ≤ l.length ∧ i = .int .i64 k ∧ ∃ l', l'.length = l.length ∧ OwnB wr base (.slice a l.length cap) l' ∧ Below base w wr) (fun i _ => l.length - (intOf i).toNat)
  case atStart => exact ⟨0, by omega, rfl, l, rfl, HG.out, Below.refl _ _⟩
  case round =>
    obtain ⟨k, hk, rfl, l', hl', ho, hbel⟩ := hrel
    by_cases hlt : k < l.length
    · rcases HC.out with ⟨h0, _⟩ | ⟨g, rfl, hg⟩
      · omega
      · have hcell := ho.cellAt k (by omega)
        have hfr := ho.frozenAt hl'.symm k
        have hset := hid (ho.set hl'.symm k 3)
        generalize l'[k] = x at hcell
        have HO := hid ho
        clear ho
        go_wp2_with fail
        go_roundw
        case rel => exact ⟨k + 1, by omega, by go_num, l'.set k 3, by rw [List.length_set, hl'], hset.out, hbel.setCell hg _⟩
        case measure => simp [intOf]; omega
    · obtain rfl : k = l.length := by omega
      go_wp2_with fail
      go_ret
      exact ⟨rfl, hbel⟩

end Go.Proofs.Ythobhkmphjnlaaa
