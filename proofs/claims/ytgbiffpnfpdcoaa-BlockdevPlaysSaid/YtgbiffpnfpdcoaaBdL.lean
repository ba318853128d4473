/- blockdev: what the laws use of a device of their own; cartularylaw02.awake, walked. -/
import Derived.Test.YtgbiffpnfpdcoaaBdK
import Derived.Test.YtgbiffpnfpdcoaaSuHW
import Derived.Test.YtgbiffpnfpdcoaaBlk
namespace Go.Proofs.Ytgbiffpnfpdcoaa
open Go.RowKit Go.Maps
set_option linter.unusedVariables false
set_option linter.unusedSimpArgs false

theorem pendN_one {d : Dv} {n : Nat} (hn : n < d.safe.length) (h1 : d.pend (n : Int) ≠ []) (h2 : ∀ j : Int, j ≠ n → d.pend j = []) : pendN d = [n] := by
  have hm : ∀ k, k ∈ pendN d ↔ k = n := fun k => by
    rw [pendN_mem]
    constructor
    · rintro ⟨_, h⟩
      by_cases e : (k : Int) = n
      · omega
      · exact absurd (h2 _ e) h
    · rintro rfl; exact ⟨hn, h1⟩
  have hp := pendN_lt d
  cases hl : pendN d with
  | nil => have := (hm n).2 rfl; rw [hl] at this; cases this
  | cons a l =>
    rw [hl] at hm hp
    have ha : a = n := (hm a).1 (by simp)
    subst ha
    cases l with
    | nil => rfl
    | cons b l =>
      have hb : b = a := (hm b).1 (by simp)
      have := (List.pairwise_cons.1 hp).1 b (by simp)
      omega
theorem crash_one {d : Dv} {n : Nat} (h : pendN d = [n]) (picks : List Int) : curF (crashF d picks) (n : Int) = keepF (d.pend n) (d.safe.getD n zb) (picks.getD 0 0) := by
  have := crash_at d picks 0 (by rw [h]; simp)
  simpa [h] using this

section
variable {w W : World} {g : Nat} {ρ : Nat → Option DRol} {N : Nat} {d : Dv}
theorem MWrite (hm : Mine w W g ρ N d) (hN : N ≤ 999999000) (n : Int) (hn : -9223372036854775808 ≤ n ∧ n ≤ 9223372036854775807) (v : Value) (data : List UInt8) (hv : RdB W v data) (hvb : ∀ k, v.ownBlock = some k → ρ k = none) :
    Calls Try.prog 27 #[.pointer (some ⟨g, 0, none⟩), .int .i64 n, v] W fun e W' => e = .returned (.int .i64 (writeF d n data).1) ∧ (∃ ρ', Mine w W' g ρ' (N + 2) (writeF d n data).2 ∧ ∀ k, ρ' k ≠ none → ρ k ≠ none ∨ W.heap.size ≤ k) ∧ Keep (fun k => ρ k = none) W W' := by
  refine (Write_any W g ρ N d hm.dv (by omega) n hn v data hv hvb).mono ?_
  rintro e W' ⟨rfl, ρ', h1, h2, h3⟩
  exact ⟨rfl, ⟨ρ', hm.wr h1 h2 h3, h3⟩, h2⟩
theorem MFlush (hm : Mine w W g ρ N d) (hN : N ≤ 999999000) :
    Calls Try.prog 32 #[.pointer (some ⟨g, 0, none⟩)] W fun e W' => e = .returned (.int .i64 (flushF d).1) ∧ (∃ ρ', Mine w W' g ρ' (N + 1) (flushF d).2 ∧ ∀ k, ρ' k ≠ none → ρ k ≠ none ∨ W.heap.size ≤ k) ∧ Keep (fun k => ρ k = none) W W' := by
  refine (Flush_any W g ρ N d hm.dv (by omega)).mono ?_
  rintro e W' ⟨rfl, ρ', h1, h2, h3⟩
  exact ⟨rfl, ⟨ρ', hm.wr h1 h2 h3, h3⟩, h2⟩
theorem MRead (hm : Mine w W g ρ N d) (hN : N ≤ 999999000) (n : Int) (hn : -9223372036854775808 ≤ n ∧ n ≤ 9223372036854775807) :
    Calls Try.prog 30 #[.pointer (some ⟨g, 0, none⟩), .int .i64 n] W fun e W' =>
      ((opF d n 0).1 ≠ 0 ∧ e = .returned (.tuple #[.slice none 0 0, .int .i64 (opF d n 0).1]) ∨ (opF d n 0).1 = 0 ∧ (curF d n).length = 512 ∧ ∃ k, e = .returned (.tuple #[.slice (some ⟨k, 0, none⟩) 512 512, .int .i64 0]) ∧ W.heap.size ≤ k ∧ W'.heap[k]? = some (.cells (bvs (curF d n)).toArray 102 (0, 0))) ∧
      Mine w W' g ρ (N + 1) (opF d n 0).2 ∧ Keep (fun k => k ≠ g) W W' := by
  refine (Read_any W g ρ N d hm.dv (by omega) n hn).mono ?_
  rintro e W' ⟨h1, h2, h3⟩
  exact ⟨h1, hm.hd h2 h3, h3⟩
theorem MWriteC (hm : Mine w W g ρ N d) (hN : N ≤ 999999000) (hc : Calm d) (n : Int) (hn : 0 ≤ n ∧ n < d.safe.length) (v : Value) (data : List UInt8) (hv : RdB W v data) (hvb : ∀ k, v.ownBlock = some k → ρ k = none) (hd : data.length = 512) :
    Calls Try.prog 27 #[.pointer (some ⟨g, 0, none⟩), .int .i64 n, v] W fun e W' => e = .returned (.int .i64 0) ∧ ∃ ρ' d', Mine w W' g ρ' (N + 2) d' ∧ Calm d' ∧ Wr d n data d' ∧ Keep (fun k => ρ k = none) W W' ∧ ∀ k, ρ' k ≠ none → ρ k ≠ none ∨ W.heap.size ≤ k := by
  have hsz : d.safe.length ≤ 512 := by obtain ⟨_, _, _, h⟩ := hm.dv; exact h.size.2
  rcases write_up (calm_up hc) hn hd with ⟨d', e1, h1, h2, h3⟩ | ⟨h0, _⟩
  · refine (MWrite hm hN n (by omega) v data hv hvb).mono ?_
    rintro e W' ⟨rfl, ⟨ρ', h4, h6⟩, h5⟩
    rw [e1] at h4 ⊢
    exact ⟨rfl, ρ', d', h4, up_calm h2 (h3 hc.2.1), h1, h5, h6⟩
  · exact absurd hc.2.1 h0
theorem MFlushC (hm : Mine w W g ρ N d) (hN : N ≤ 999999000) (hc : Calm d) :
    Calls Try.prog 32 #[.pointer (some ⟨g, 0, none⟩)] W fun e W' => e = .returned (.int .i64 0) ∧ ∃ ρ' d', Mine w W' g ρ' (N + 1) d' ∧ Calm d' ∧ Fl d d' ∧ Keep (fun k => ρ k = none) W W' ∧ ∀ k, ρ' k ≠ none → ρ k ≠ none ∨ W.heap.size ≤ k := by
  have hsz : 64 ≤ d.safe.length := by obtain ⟨_, _, _, h⟩ := hm.dv; exact h.size.1
  rcases flush_up (calm_up hc) (by omega) with ⟨d', e1, h1, h2, h3⟩ | ⟨h0, _⟩
  · refine (MFlush hm hN).mono ?_
    rintro e W' ⟨rfl, ⟨ρ', h4, h6⟩, h5⟩
    rw [e1] at h4 ⊢
    exact ⟨rfl, ρ', d', h4, up_calm h2 (h3 hc.2.1), h1, h5, h6⟩
  · exact absurd hc.2.1 h0
theorem MReadC (hm : Mine w W g ρ N d) (hN : N ≤ 999999000) (hc : Calm d) (n : Int) (hn : 0 ≤ n ∧ n < d.safe.length) :
    Calls Try.prog 30 #[.pointer (some ⟨g, 0, none⟩), .int .i64 n] W fun e W' =>
      ∃ k, e = .returned (.tuple #[.slice (some ⟨k, 0, none⟩) 512 512, .int .i64 0]) ∧ W.heap.size ≤ k ∧ W'.heap[k]? = some (.cells (bvs (curF d n)).toArray 102 (0, 0)) ∧ (curF d n).length = 512 ∧
      ∃ d', Mine w W' g ρ (N + 1) d' ∧ Calm d' ∧ Same d d' ∧ Keep (fun k => k ≠ g) W W' := by
  have hsz : d.safe.length ≤ 512 := by obtain ⟨_, _, _, h⟩ := hm.dv; exact h.size.2
  rcases op_up (calm_up hc) hn with ⟨d', e1, h1, h2, h3⟩ | ⟨h0, _⟩
  · refine (MRead hm hN n (by omega)).mono ?_
    rintro e W' ⟨h4, h5, h6⟩
    rw [e1] at h4 h5
    rcases h4 with ⟨h, _⟩ | ⟨_, h7, k, h8, h9, h10⟩
    · exact absurd rfl h
    · exact ⟨k, h8, h9, h10, h7, d', h5, up_calm h2 (h3 hc.2.1), h1, h6⟩
  · exact absurd hc.2.1 h0
theorem MPending (hm : Mine w W g ρ N d) (hN : N ≤ 999999000) :
    Calls Try.prog 33 #[.pointer (some ⟨g, 0, none⟩)] W fun e W' => ∃ v, e = .returned v ∧ OwnS rI 3 W' W.heap.size (fun _ => False) v (pendL d) ∧ Ext W W' := Pending_any W g ρ N d hm.dv (by omega)
/-- a row that is no part of the device, past a call -/
theorem row_past {W1 W2 : World} (hk : Keep (fun k => ρ k = none) W1 W2) {k : Nat} {x : Obj} (hr : W1.heap[k]? = some x) (hρ : ρ k = none) : W2.heap[k]? = some x := (hk.block k hρ (Array.getElem?_eq_some_iff.1 hr).1).trans hr
theorem row_past1 {W1 W2 : World} (hk : Keep (fun k => k ≠ g) W1 W2) {k : Nat} {x : Obj} (hr : W1.heap[k]? = some x) (hρ : k ≠ g) : W2.heap[k]? = some x := (hk.block k hρ (Array.getElem?_eq_some_iff.1 hr).1).trans hr
theorem row_ext {W1 W2 : World} (hx : Ext W1 W2) {k : Nat} {x : Obj} (hr : W1.heap[k]? = some x) : W2.heap[k]? = some x := (Below.block hx k (Array.getElem?_eq_some_iff.1 hr).1).trans hr
end
theorem row_cell {W : World} {k : Nat} {b : List UInt8} {t : TypeId} (h : W.heap[k]? = some (.cells (bvs b).toArray t (0, 0))) (i : Nat) (x : UInt8) (hi : b[i]? = some x) : W.cell? ⟨k, i, none⟩ = some (.int .u8 (x.toNat : Int)) := by
  obtain ⟨h1, h2⟩ := List.getElem?_eq_some_iff.1 hi
  rw [cell_of_row _ _ _ _ _ _ h]
  exact List.getElem?_toArray.trans ((bvs_get b i h1).trans (by rw [h2]))
theorem row_rdB {W : World} {k : Nat} {b : List UInt8} {t : TypeId} (h : W.heap[k]? = some (.cells (bvs b).toArray t (0, 0))) (hl : b.length = 512) : RdB W (.slice (some ⟨k, 0, none⟩) 512 512) b := rdB_row h 512 hl.symm (by omega)
theorem blockL_empty (fill : Int) : blockL fill ⟨#[]⟩ = List.replicate 512 (UInt8.ofNat (pickF fill 256)) := rfl
theorem blkRow1 (W : World) : (Instr.buildSlice 33 1 #[(0, .int .i64 1)]).run Try.prog W = .ok (.slice (some ⟨W.heap.size, 0, none⟩) 1 1) (W.alloc (.cells #[.int .i64 1] 3)) := by kernel_rfl
theorem rdI_one {W : World} {k : Nat} {x : Int} (hx : -9223372036854775808 ≤ x ∧ x ≤ 9223372036854775807) (h : W.heap[k]? = some (.cells #[.int .i64 x] 3 (0, 0))) : RdS rI W (fun j => j = k) (.slice (some ⟨k, 0, none⟩) 1 1) [x] := by
  refine ⟨_, [([.int .i64 x], x)], rfl, rfl, ⟨_, _, rfl, Nat.le_refl _, by unfold maxLen; decide, by simp [cellsOf, rI], fun _ => ⟨k, 0, rfl, (Array.getElem?_eq_some_iff.1 h).1, fun j hj => ?_⟩⟩, fun _ j hj => ?_, fun p hp => ?_⟩
  · rw [cell_of_row _ _ _ _ _ _ h]
    have : j = 0 := by simp [rI] at hj; omega
    subst this; rfl
  · simp only [Value.ownBlock, Option.some.injEq] at hj; exact hj.symm
  · obtain rfl := List.mem_singleton.1 hp; exact ⟨rfl, hx⟩
end Go.Proofs.Ytgbiffpnfpdcoaa
