/- Rows that lie beside one another: frames that came in, laid one behind the other. -/
import Derived.Test.YthmpikbbkoblfaaScan
namespace Go.Proofs.Ythmpikbbkoblfaa
open Go.RowKit
set_option linter.unusedVariables false
set_option linter.unusedSimpArgs false

def goodF (fs : List (UInt8 × List UInt8)) : List (UInt8 × List UInt8) := fs.filter fun f => decide (f.2.length ≤ 2000)
def allF (fs : List (UInt8 × List UInt8)) : List UInt8 := fs.flatMap fun f => putF f.1 f.2
theorem goodF_snoc (fs : List (UInt8 × List UInt8)) (k : Nat) (h : k < fs.length) : goodF (fs.take (k + 1)) = if fs[k].2.length ≤ 2000 then goodF (fs.take k) ++ [fs[k]] else goodF (fs.take k) := by
  rw [List.take_succ_eq_append_getElem h]
  unfold goodF
  rw [List.filter_append]
  by_cases hd : fs[k].2.length ≤ 2000 <;> simp [hd]
theorem allF_snoc (fs : List (UInt8 × List UInt8)) (f : UInt8 × List UInt8) : allF (fs ++ [f]) = allF fs ++ putF f.1 f.2 := by simp [allF]
theorem goodF_small (fs : List (UInt8 × List UInt8)) : ∀ f ∈ goodF fs, f.2.length ≤ 2000 := by
  intro f hf
  simpa using (List.mem_filter.1 hf).2
theorem scanF_all (fs : List (UInt8 × List UInt8)) (h : ∀ f ∈ fs, f.2.length ≤ 2000) : scanF (allF fs) = (fs, (allF fs).length) := by
  induction fs with
  | nil => exact scanF_bad [] (by decide)
  | cons f fs ih =>
    have e : allF (f :: fs) = putF f.1 f.2 ++ allF fs := by simp [allF]
    have hf := frameF_putF f.1 f.2 (allF fs) (h f (by simp))
    rw [e, scanF_ok _ (by rw [hf]), hf]
    dsimp only
    rw [List.drop_left, ih (fun g hg => h g (by simp [hg])), List.length_append]
    
theorem rows_apart {w : World} {b b' e e' s s' n n' : Nat} {v v' : Value} {xs xs' : List Value} (h : w.ownsRow b e s v n xs) (h' : w.ownsRow b' e' s' v' n' xs') (ne : e ≠ e') (k : Nat) (hk : v.ownBlock = some k) : v'.ownBlock ≠ some k := by
  intro hk'
  rcases h.2 with ⟨rfl, _⟩ | ⟨g, cap, cur, rfl, _, hg, _⟩
  · simp [Value.ownBlock] at hk
  · rcases h'.2 with ⟨rfl, _⟩ | ⟨g', cap', cur', rfl, _, hg', _⟩
    · simp [Value.ownBlock] at hk'
    · simp only [Value.ownBlock, Option.map_some, Option.some.injEq] at hk hk'
      subst hk hk'
      rw [hg] at hg'
      simp only [Option.some.injEq, Obj.cells.injEq] at hg'
      exact ne hg'.2.1

theorem own_grown {w w' : World} {b e s n : Nat} {v : Value} {xs : List Value} {row : Option Nat} (h : w.ownsRow b e s v n xs) (hg : w.grownBy w' row) (hr : ∀ k, v.ownBlock = some k → row ≠ some k) : w'.ownsRow b e s v n xs :=
  own_kept h fun k hk => hg.block k (h.lt k hk).2 fun e => hr k hk e.symm

/-- a row of frames of the call's own, whose bytes lie below the call's base -/
def OwnG (w : World) (base : Nat) (v : Value) (fs : List (UInt8 × List UInt8)) : Prop :=
  ∃ gs : List (UInt8 × List UInt8 × Value), fs = gs.map (fun g => (g.1, g.2.1)) ∧ w.ownsRow base 31 2 v gs.length (flatFr gs) ∧
    ∀ g ∈ gs, RdB w g.2.2 g.2.1 ∧ (0 < g.2.1.length → ∀ k, g.2.2.ownBlock = some k → k < base)
theorem OwnG.nil (w : World) (base : Nat) : OwnG w base (.slice none 0 0) [] := ⟨[], rfl, World.ownsRow_nil _ _ _ _, by simp⟩
theorem OwnG.ownF {w : World} {base : Nat} {v : Value} {fs : List (UInt8 × List UInt8)} (h : OwnG w base v fs) : OwnF w base v fs := by
  obtain ⟨gs, h1, h2, h3⟩ := h
  refine ⟨gs, h1, h2, fun g hg => ⟨(h3 g hg).1, fun hn k hk hv => ?_⟩⟩
  have a1 := (h3 g hg).2 hn k hk
  have a2 := (h2.lt k hv).1
  omega
theorem OwnG.below {w w' : World} {base : Nat} {v : Value} {fs : List (UInt8 × List UInt8)} (h : OwnG w base v fs) (hb : Below w.heap.size w w') : OwnG w' base v fs := by
  obtain ⟨gs, h1, h2, h3⟩ := h
  exact ⟨gs, h1, own_belowS h2 hb, fun g hg => ⟨(h3 g hg).1.below hb, (h3 g hg).2⟩⟩
theorem OwnG.grown {w w' : World} {base : Nat} {v : Value} {fs : List (UInt8 × List UInt8)} {row : Option Nat} (h : OwnG w base v fs) (hg : w.grownBy w' row) (hr : ∀ k, v.ownBlock = some k → row ≠ some k) (hb : ∀ k, row = some k → base ≤ k) : OwnG w' base v fs := by
  obtain ⟨gs, h1, h2, h3⟩ := h
  exact ⟨gs, h1, own_grown h2 hg hr, fun g hgm => ⟨(h3 g hgm).1.grow hg fun hn k hk hrow => by have := (h3 g hgm).2 hn k hk; have := hb k hrow; omega, (h3 g hgm).2⟩⟩
/-- append of one frame whose bytes came in -/
theorem wl_appG {w : World} {ops : Array Oper} {rest : List Oper} {o : Oper} {a : Act} {Q : Exit → Act → World → Prop} (hgd : o.guard = none) (s x : Operand) (tx : TypeId)
    (ho : o.op = .call { callee := .builtin .append, args := #[s, x], argTypes := #[39, tx] }) (base : Nat)
    (v : Value) (fs : List (UInt8 × List UInt8)) (hs : a.eval s = v) (happ : OwnG w base v fs)
    (y : Value) (k : UInt8) (dv : Value) (l : List UInt8) (hx : a.eval x = y) (hsrc : Src Try.prog 2 tx y 1 [bv k, dv] w) (hrd : RdB w dv l)
    (hne : 0 < l.length → ∀ b, dv.ownBlock = some b → b < base)
    (hbytes : (fs.length + 1) * 32 ≤ 140737488355328) (hbase : base ≤ w.heap.size)
    (h : ∀ v' w', OwnG w' base v' (fs ++ [(k, l)]) → w.grownBy w' v.ownBlock → Below base w w' → (∀ k, v'.ownBlock = some k → v.ownBlock = some k ∨ w.heap.size ≤ k) → wpList Try.prog ops Q rest (a.put o.dst v') w') : wpList Try.prog ops Q (o :: rest) a w := by
  obtain ⟨i0, hi, hz0, hz1, hz2⟩ := info_parts infoFr
  obtain ⟨gs, rfl, g2, g3⟩ := happ
  rw [List.length_map] at hbytes
  have hone : dv.oneCell' = true := by obtain ⟨a, c, rfl, _⟩ := hrd; rfl
  refine wpList_plain hgd fun _ hK => wp_append_app s x 39 tx ho base 31 i0 (.agg #[.int .u8 0, .slice none 0 0]) 2 32 Try.underlying39 hi hz0 hz1 hz2 rfl v gs.length (flatFr gs) hs (.inl g2) (flatFr_one gs fun g hg => by obtain ⟨a, c, e, _⟩ := (g3 g hg).1; rw [e]; rfl) y 1 [bv k, dv] hx hsrc (by omega) (by omega) hbase ?_
  intro v' w' h1 h2 h3 h4 h5 h6
  refine hK _ _ (h v' w' ⟨gs ++ [(k, l, dv)], by simp, ?_, fun g hg => ?_⟩ h4 h5 h6)
  · have := h2 (by omega)
    have e : flatFr (gs ++ [(k, l, dv)]) = flatFr gs ++ [bv k, dv] := by simp [flatFr]
    rw [e, List.length_append]
    exact this
  · have all : RdB w g.2.2 g.2.1 ∧ (0 < g.2.1.length → ∀ k, g.2.2.ownBlock = some k → k < base) := by
      rcases List.mem_append.1 hg with hg | hg
      · exact g3 g hg
      · obtain rfl := List.mem_singleton.1 hg
        exact ⟨hrd, hne⟩
    exact ⟨all.1.grow h4 fun hn b hb hv => by have h1 := all.2 hn b hb; have h2 := (g2.lt b hv).1; omega, all.2⟩

theorem RdF.at {w : World} {v : Value} {fs : List (UInt8 × List UInt8)} (h : RdF w v fs) (i : Nat) (hi : i < fs.length) : ∃ g o cap d, v = .slice (some ⟨g, o, none⟩) fs.length cap ∧ g < w.heap.size ∧ w.cell? ⟨g, o + i * 2, none⟩ = some (.int .u8 ((fs[i].1.toNat : Nat) : Int)) ∧ w.cell? ⟨g, o + i * 2 + 1, none⟩ = some d ∧ RdB w d fs[i].2 := by
  obtain ⟨a, cap, rfl, h1, h2, h3, h4⟩ := h
  obtain ⟨g, o, rfl, hg⟩ := h3 (by omega)
  obtain ⟨c0, d, c1, hd⟩ := h4 i hi g o rfl
  exact ⟨g, o, cap, d, rfl, hg, c0, c1, hd⟩
end Go.Proofs.Ythmpikbbkoblfaa
