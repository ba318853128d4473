/- Rows of integers in memory. -/
import Derived.Test.YtgbiffpnfpdcoaaRdr
namespace Go.Proofs.Ytgbiffpnfpdcoaa
open Go.RowKit
set_option linter.unusedVariables false
set_option linter.unusedSimpArgs false

/-! ### rows of integers -/
def ivs (l : List Int) : List Value := l.map (Value.int .i64)
@[simp] theorem ivs_length (l : List Int) : (ivs l).length = l.length := by simp [ivs]
theorem ivs_one (l : List Int) : ∀ u ∈ ivs l, u.oneCell' = true := by
  intro u hu; obtain ⟨b, _, rfl⟩ := List.mem_map.1 hu; rfl
theorem ivs_get (l : List Int) (j : Nat) (h : j < l.length) : (ivs l)[j]? = some (.int .i64 l[j]) := by simp [ivs, h]
def OwnI (w : World) (base : Nat) (v : Value) (l : List Int) : Prop := w.ownsRow base 3 1 v l.length (ivs l)
theorem OwnI.slice {w : World} {base : Nat} {v : Value} {l : List Int} (h : OwnI w base v l) : ∃ a c, v = .slice a l.length c := by
  rcases h.2 with ⟨rfl, h2⟩ | ⟨g, cap, cur, rfl, _⟩
  · exact ⟨none, 0, by rw [h2]⟩
  · exact ⟨_, _, rfl⟩
theorem infoI : (Try.prog.info? 3).map (fun i => (i.zero, i.size, i.bytes)) = some (some (.int .i64 0), 1, 8) := by kernel_rfl

theorem wl_appI {w : World} {ops : Array Oper} {rest : List Oper} {o : Oper} {a : Act} {Q : Exit → Act → World → Prop} (hgd : o.guard = none) (s x : Operand) (tx : TypeId)
    (ho : o.op = .call { callee := .builtin .append, args := #[s, x], argTypes := #[33, tx] }) (base : Nat)
    (v : Value) (l : List Int) (hs : a.eval s = v) (happ : OwnI w base v l)
    (y : Value) (m : List Int) (hx : a.eval x = y) (hsrc : Src Try.prog 1 tx y m.length (ivs m) w)
    (hbytes : (l.length + m.length) * 8 ≤ 140737488355328) (hbase : base ≤ w.heap.size)
    (h : ∀ v' w', OwnI w' base v' (l ++ m) → w.grownBy w' v.ownBlock → Below base w w' → (∀ k, v'.ownBlock = some k → v.ownBlock = some k ∨ w.heap.size ≤ k) → wpList Try.prog ops Q rest (a.put o.dst v') w') : wpList Try.prog ops Q (o :: rest) a w := by
  obtain ⟨i0, hi, hz0, hz1, hz2⟩ := info_parts infoI
  refine wpList_plain hgd fun _ hK => wp_append_app s x 33 tx ho base 3 i0 (.int .i64 0) 1 8 Try.underlying33 hi hz0 hz1 hz2 rfl v l.length (ivs l) hs (.inl happ) (ivs_one l) y m.length (ivs m) hx hsrc (by omega) (by omega) hbase ?_
  intro v' w' h1 h2 h3 h4 h5 h6
  have := h3 happ
  rw [← List.length_append, show ivs l ++ ivs m = ivs (l ++ m) from by simp [ivs]] at this
  exact hK _ _ (h v' w' this h4 h5 h6)
theorem src_int (w : World) (g : Nat) (n : Int) (hg : w.heap.size = g) : Src Try.prog 1 33 (.slice (some ⟨g, 0, none⟩) 1 1) [n].length (ivs [n]) (w.alloc (.cells #[.int .i64 n] 3)) := by
  subst hg
  refine Src.ofSlice _ Try.underlying33 ⟨w.heap.size, 0, none⟩ 1 1 (ivs [n]) rfl (fun j u hu => ?_) (ivs_one _)
  cases j with
  | zero => simp [ivs] at hu; subst hu; simp [Addr.add, go_sem]
  | succ j => simp [ivs] at hu

theorem OwnI.cellAt {w : World} {base n cap : Nat} {a : Option Addr} {l : List Int} (h : OwnI w base (.slice a n cap) l) (j : Nat) (hj : j < l.length) : ∃ g, a = some ⟨g, 0, none⟩ ∧ g < w.heap.size ∧ w.cell? ⟨g, j, none⟩ = some (.int .i64 l[j]) := by
  rcases h.2 with ⟨e, h0⟩ | ⟨g', cap', cur, e, _⟩
  · omega
  · obtain ⟨a0, c0, e0, _, _, _, h4⟩ := rd_of_own h
    simp only [Value.slice.injEq] at e e0
    obtain ⟨rfl, rfl, rfl⟩ := e0
    obtain ⟨g, o, e1, hg, hc⟩ := h4 (by omega)
    have e2 := e.1
    rw [e1] at e2
    simp only [Option.some.injEq, Addr.mk.injEq, and_true] at e2
    obtain ⟨rfl, rfl⟩ := e2
    refine ⟨g, e1, hg, ?_⟩
    have := hc j (by omega)
    rw [Nat.zero_add] at this
    rw [this, ivs_get l j hj]

def RdI (w : World) (v : Value) (l : List Int) : Prop := Rd w 1 v l.length (ivs l)
theorem RdI.ext {w w' : World} {v : Value} {l : List Int} (h : RdI w v l) (hx : Ext w w') : RdI w' v l := Rd.below h hx
theorem OwnI.ext {w w' : World} {base : Nat} {v : Value} {l : List Int} (h : OwnI w base v l) (hx : Ext w w') : OwnI w' base v l := own_belowS h hx
theorem OwnI.rd {w : World} {base : Nat} {v : Value} {l : List Int} (h : OwnI w base v l) : RdI w v l := rd_of_own h
theorem OwnI.keep {w w' : World} {base : Nat} {v : Value} {l : List Int} {S : Nat → Prop} (h : OwnI w base v l) (hk : Keep S w w') (hS : ∀ k, v.ownBlock = some k → S k) : OwnI w' base v l := own_kept h fun k hb => hk.block k (hS k hb) (h.lt k hb).2
theorem OwnI.low {w : World} {base base' : Nat} {v : Value} {l : List Int} (h : OwnI w base v l) (hb : base' ≤ base) : OwnI w base' v l := own_base h hb
theorem OwnI.nil (w : World) (base : Nat) : OwnI w base (.slice none 0 0) [] := World.ownsRow_nil _ _ _ _
theorem RdI.slice {w : World} {v : Value} {l : List Int} (h : RdI w v l) : ∃ a cap, v = .slice a l.length cap ∧ l.length ≤ cap ∧ cap ≤ 9223372036854775807 := by
  obtain ⟨a, cap, rfl, h1, h2, _⟩ := h
  exact ⟨a, cap, rfl, h1, by unfold maxLen at h2; omega⟩
theorem RdI.at {w : World} {v : Value} {l : List Int} (h : RdI w v l) (i : Nat) (hi : i < l.length) : ∃ g o cap, v = .slice (some ⟨g, o, none⟩) l.length cap ∧ g < w.heap.size ∧ w.cell? ⟨g, o + i, none⟩ = some (.int .i64 l[i]) := by
  obtain ⟨a, cap, rfl, h1, h2, h3, h4⟩ := h
  obtain ⟨g, o, rfl, hg, hc⟩ := h4 (by omega)
  exact ⟨g, o, cap, rfl, hg, by rw [hc i (by omega), ivs_get l i hi]⟩
theorem src_I {w : World} {x : Value} {m : List Int} (h : RdI w x m) : Src Try.prog 1 33 x m.length (ivs m) w := src_rd Try.underlying33 h (ivs_one m)
theorem rdS_ints {w : World} {S : Nat → Prop} {v : Value} {xs : List Int} (h : RdS rI w S v xs) : RdI w v xs ∧ (∀ x ∈ xs, -9223372036854775808 ≤ x ∧ x ≤ 9223372036854775807) ∧ (0 < xs.length → ∀ k, v.ownBlock = some k → S k) := by
  obtain ⟨v', gs, e, rfl, h0, hS, hp⟩ := h
  obtain rfl := List.singleton_inj.1 e
  have hc : cellsOf gs = ivs (gs.map (·.2)) := by
    unfold cellsOf ivs
    rw [List.map_map, List.flatMap_def]
    have : gs.map (·.1) = gs.map fun p => [Value.int .i64 p.2] := List.map_congr_left fun p hp' => (hp p hp').1
    rw [this]
    clear this h0 hS hp e
    induction gs with
    | nil => rfl
    | cons p gs ih => simp [ih]
  refine ⟨?_, fun x hx => ?_, by rw [List.length_map]; exact hS⟩
  · unfold RdI
    rw [List.length_map, ← hc]
    exact h0
  · obtain ⟨p, hp', rfl⟩ := List.mem_map.1 hx
    exact (hp p hp').2
end Go.Proofs.Ytgbiffpnfpdcoaa
