/- How the data that come in are read: a []byte as a list of bytes. -/
import Derived.Test.YthobhkmphjnlaaaRdr
import Derived.ProofKit
import Derived.OpenShut
import Derived.ShutString
import Derived.ChangeOld
import Derived.SizedLaws
namespace Go.Proofs.Ythobhkmphjnlaaa
open Go.ChangeShapes Go.WideShapes Go.ChangeAt Go.RowKit
set_option linter.unusedVariables false

theorem own : ownKnob Try.prog.godebug = none := by kernel_rfl
theorem laidOut : laidOutB Try.prog = true := by kernel_rfl
theorem bytesU8 : Try.prog.bytesOf 5 = 1 := by kernel_rfl
theorem cellsU8 : Try.prog.cellsOf 5 = 1 := by kernel_rfl

theorem wf_i64 {n : Int} (h : (Lit.int .i64 n).wf = true) : -9223372036854775808 ≤ n ∧ n ≤ 9223372036854775807 := by
  simpa [Lit.wf, IntKind.min, IntKind.max, IntKind.signed, IntKind.bits] using h
theorem wf_u64 {n : Int} (h : (Lit.int .u64 n).wf = true) : 0 ≤ n ∧ n ≤ 18446744073709551615 := by
  simpa [Lit.wf, IntKind.min, IntKind.max, IntKind.signed, IntKind.bits] using h
theorem wf_u8 {n : Int} (h : (Lit.int .u8 n).wf = true) : 0 ≤ n ∧ n ≤ 255 := by
  simpa [Lit.wf, IntKind.min, IntKind.max, IntKind.signed, IntKind.bits] using h
theorem reach_str {l : List UInt8} (h : l.length ≤ reachBytes) : l.length ≤ 140737488351232 := h

/-- bytes out of numbers that fit -/
theorem bvs_of (zs : List Int) (h : ∀ n ∈ zs, (Lit.int .u8 n).wf = true) : bvs (zs.map fun n => UInt8.ofNat n.toNat) = zs.map (Value.int .u8) := by
  simp only [bvs, List.map_map]
  apply List.map_congr_left
  intro n hn
  have := wf_u8 (h n hn)
  simp only [Function.comp, bv, UInt8.toNat_ofNat']
  congr 1
  rw [Nat.mod_eq_of_lt (by omega)]
  omega

set_option maxRecDepth 100000 in
theorem open_B {H : Type} {enc : TypeId × Value → H} {W : World} {base : Nat} {v : Value} {d : DataW H} {ps : List MemPlace} (hval : Value.okWide Try.prog W .any base 54 v)
    (h : ∃ fuel, DataW.trod enc Try.prog W 0 (fun _ => true) true fuel 54 v.cells.toList = some (d, ps))
    (hsz : ∀ el sp, d = .slice el sp → (el.length + sp.length) * Try.prog.bytesOf 5 ≤ reachBytes) : ∃ l : List UInt8, RdB W v l ∧ l.length ≤ 140737488351232 := by
  obtain ⟨a0, len0, cap0, rfl⟩ := okWide_slice Try.underlying54 hval
  obtain ⟨fuel, hf⟩ := h
  rcases open_ints Try.underlying54 Try.underlying5 cellsU8 hf with ⟨hcs, _⟩ | ⟨x, l, c, zs, hcs, _, hl, hm, hz, hx, hcell, hwz⟩
  · simp [Value.cells] at hcs
    obtain ⟨rfl, rfl, rfl⟩ := hcs
    exact ⟨[], Rd.nil _ _, Nat.zero_le _⟩
  · simp [Value.cells] at hcs
    obtain ⟨rfl, rfl, rfl⟩ := hcs
    simp only [if_true] at hz
    have hb := hsz _ _ (Prod.mk.inj hx).1
    rw [bytesU8] at hb
    simp only [lits, List.length_map, List.length_take, List.length_drop] at hb
    have hzl : (zs.take len0).length = len0 := by rw [List.length_take]; omega
    refine ⟨(zs.take len0).map fun n => UInt8.ofNat n.toNat, ?_, ?_⟩
    · have e := bvs_of (zs.take len0) (fun n hn => hwz n (List.mem_of_mem_take hn))
      unfold RdB
      rw [e, List.length_map, hzl]
      refine ⟨_, _, rfl, hl, hm, by rw [List.length_map, hzl, Nat.mul_one], fun hn => ?_⟩
      obtain ⟨g, o, spot⟩ := x
      have h0 := hcell 0 (by omega)
      have hspot : spot = none := by simpa [Addr.add] using World.cell?_spot h0
      subst hspot
      refine ⟨g, o, rfl, ?_, fun j hj => ?_⟩
      · have := World.block_lt_of_cell? _ _ h0
        simpa [Addr.add] using this
      · have hj' : j < zs.length := by omega
        have hcj := hcell j hj'
        rw [show (⟨g, o, none⟩ : Addr).add j = ⟨g, o + j, none⟩ from by unfold Addr.add; split <;> simp_all] at hcj
        rw [hcj, List.getElem?_map, List.getElem?_take, if_pos (by omega), List.getElem?_eq_getElem hj']
        simp [List.getD_eq_getElem?_getD, hj']
    · rw [List.length_map, hzl]
      have : reachBytes = 140737488351232 := rfl
      omega
end Go.Proofs.Ythobhkmphjnlaaa
