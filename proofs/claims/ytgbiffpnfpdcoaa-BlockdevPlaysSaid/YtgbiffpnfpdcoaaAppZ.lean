/- append(b, make([]byte, n)...): as the append of a string of noughts. -/
import Derived.Test.YtgbiffpnfpdcoaaPutA
namespace Go.Proofs.Ytgbiffpnfpdcoaa
open Go.RowKit
set_option linter.unusedVariables false
set_option linter.unusedSimpArgs false

def zeroB (n : Nat) : ByteArray := ⟨(List.replicate n (0 : UInt8)).toArray⟩
theorem zeroB_size (n : Nat) : (zeroB n).size = n := by simp [zeroB, ByteArray.size]
theorem zeroB_cells (n : Nat) : ((zeroB n).extract 0 n).data.map (fun b => Value.int .u8 b.toNat) = Builtin.zeroCells #[.int .u8 0] n := by
  apply Array.ext
  · simp [zeroB, Builtin.zeroCells]
  · intro i h1 h2
    simp [zeroB, Builtin.zeroCells, Nat.mod_one]
theorem zero_first (n : Nat) (w : World) : (Builtin.firstCells 1 n (.string (zeroB n))).run Try.prog w = .ok (Builtin.zeroCells (Value.int .u8 0).cells n) w := by
  have := zeroB_cells n
  simp only [Builtin.firstCells, Sem.run_pure]
  rw [this]; rfl

theorem append_zeros_eq (w : World) (ty : TypeId) (a : Option Addr) (len cap n : Nat) (h : len ≤ cap) (hb : len + n ≤ 140737488355328) :
    (Builtin.append_ #[22, 3] ty #[.slice a len cap, .int .i64 n]).run Try.prog w = (Builtin.append_ #[22, 9] ty #[.slice a len cap, .string (zeroB n)]).run Try.prog w := by
  obtain ⟨i0, hi, hz0, hz1, hz2⟩ := info_parts infoU8
  have hw : IntKind.i64.wrap (n : Int) = n := by rw [IntKind.wrap_i64]; omega
  have hneg : ¬ ((n : Int) < 0) := by omega
  have h48i : ¬ (281474976710656 < (n : Int)) := by omega
  have hf := fun W => zero_first n W
  have hw0 : IntKind.i64.wrap 0 = 0 := by decide
  by_cases hroom : len + n ≤ cap
  · by_cases hn0 : n = 0
    · subst hn0
      cases a <;> simp [Builtin.append_, run_underlying Try.underlying22, run_underlying Try.underlying3, run_underlying Try.underlying9, sizeOf, typeInfo, zeroValue, asInt, asIntOf, hi, hz0, hz1, hz2, hw, hw0, hneg, h48i, Builtin.lenOf, zeroB_size, hroom, hf, h, Builtin.zeroCells]
    · cases a <;> simp [Builtin.append_, run_underlying Try.underlying22, run_underlying Try.underlying3, run_underlying Try.underlying9, sizeOf, typeInfo, zeroValue, asInt, asIntOf, hi, hz0, hz1, hz2, hw, hw0, hneg, h48i, Builtin.lenOf, zeroB_size, hroom, hf, hn0]
  · have hn0 : ¬ n = 0 := by omega
    have hfit := growslice_fits (need := len + n) (old := cap) (bytes := 1) (by omega) (by omega)
    have h48' : ¬ (281474976710656 < Builtin.nextslicecap (len + n) cap) := by omega
    have h63 : ¬ (9223372036854775807 < (len : Int) + (n : Int)) := by omega
    cases a <;> simp [Builtin.append_, run_underlying Try.underlying22, run_underlying Try.underlying3, run_underlying Try.underlying9, sizeOf, typeInfo, zeroValue, asInt, asIntOf, hi, hz0, hz1, hz2, hw, hw0, hneg, h48i, Builtin.lenOf, zeroB_size, hroom, hf, hn0, h48', h63]

theorem wl_appZ {w : World} {ops : Array Oper} {rest : List Oper} {o : Oper} {a : Act} {Q : Exit → Act → World → Prop} (hgd : o.guard = none) (s x : Operand)
    (ho : o.op = .call { callee := .builtin .append, args := #[s, x], argTypes := #[22, 3] }) (base : Nat)
    (v : Value) (l : List UInt8) (hs : a.eval s = v) (happ : AppB w base v l)
    (n : Nat) (hx : a.eval x = .int .i64 n)
    (hbytes : l.length + n ≤ 140737488355328) (hbase : base ≤ w.heap.size)
    (h : ∀ v' w', AppB w' base v' (l ++ List.replicate n 0) → (0 < n → OwnB w' base v' (l ++ List.replicate n 0)) → (OwnB w base v l → OwnB w' base v' (l ++ List.replicate n 0)) →
      w.grownBy w' v.ownBlock → Below base w w' → (∀ k, v'.ownBlock = some k → v.ownBlock = some k ∨ w.heap.size ≤ k) → wpList Try.prog ops Q rest (a.put o.dst v') w') : wpList Try.prog ops Q (o :: rest) a w := by
  refine wpList_plain hgd fun K hK => ?_
  obtain ⟨i0, hi, hz0, hz1, hz2⟩ := info_parts infoU8
  have hsrc := src_str w (zeroB n)
  have hl : (zeroB n).data.toList = List.replicate n 0 := by simp [zeroB]
  rw [hl] at hsrc
  obtain ⟨v', w', hr, h1, h2, h3, h4, h5, h6⟩ := run_append_app (P := Try.prog) w base 22 9 o.type 5 i0 (.int .u8 0) 1 1 Try.underlying22 hi hz0 hz1 hz2 rfl v l.length (bvs l) happ (bvs_oneCell l) _ _ _ hsrc (by simp; omega) (by simp; omega) hbase
  obtain ⟨sa, sc, rfl, hsc⟩ : ∃ sa sc, v = .slice sa l.length sc ∧ l.length ≤ sc := by
    obtain ⟨sa, sc, e, h1, -⟩ := happ.rd
    exact ⟨sa, sc, e, h1⟩
  have he := append_zeros_eq w o.type sa l.length sc n hsc hbytes
  rw [hr] at he
  have hlr : (List.replicate n (0 : UInt8)).length = n := List.length_replicate
  rw [← List.length_append, ← bvs_append] at h1 h2 h3
  rw [hlr] at h2
  unfold Oper.wp execOp
  simp only [ho, resolve, invoke, builtin, Sem.run_bind, Sem.run_pure, Result.andThen_ok, List.map_toArray, List.map_cons, List.map_nil, hs, hx, he]
  exact hK _ _ (h v' w' h1 h2 h3 h4 h5 h6)
end Go.Proofs.Ytgbiffpnfpdcoaa
