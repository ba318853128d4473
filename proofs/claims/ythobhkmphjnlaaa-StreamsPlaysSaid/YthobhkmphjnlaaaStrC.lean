/- Steps of a region that draws: an int, an entry behind a row; the store into the map of places. -/
import Derived.Test.YthobhkmphjnlaaaStrT
namespace Go.Proofs.Ythobhkmphjnlaaa
open Go.RowKit
set_option linter.unusedVariables false
set_option linter.unusedSimpArgs false

theorem step_appI {w : World} {ops : Array Oper} {o : Oper} {a : Act} {K : Act → World → Prop} {Q : Exit → Act → World → Prop} {E : Prop} (hgd : o.guard = none) (s x : Operand)
    (ho : o.op = .call { callee := .builtin .append, args := #[s, x], argTypes := #[81, 81] }) (base : Nat)
    (v : Value) (xs : List Int) (hs : a.eval s = v) (happ : OwnS rI 3 w base (fun _ => False) v xs)
    (n : Int) (hn : -9223372036854775808 ≤ n ∧ n ≤ 9223372036854775807) (gb : Nat) (hx : a.eval x = .slice (some ⟨gb, 0, none⟩) 1 1)
    (hrow : w.heap[gb]? = some (.cells #[.int .i64 n] 3 (0, 0))) (hl : xs.length ≤ 1000000) (hbase : base ≤ w.heap.size)
    (h : ∀ v' w', OwnS rI 3 w' base (fun _ => False) v' (xs ++ [n]) → w.grownBy w' v.ownBlock → (∀ k, v'.ownBlock = some k → v.ownBlock = some k ∨ w.heap.size ≤ k) → K (a.put o.dst v') w') :
    if Region.wanted o (yielded ops a.tmps) = true then Oper.wp Try.prog o a w K Q else E := by
  have hw : Region.wanted o (yielded ops a.tmps) = true := by simp [Region.wanted, hgd]
  rw [if_pos hw]
  refine wp_appS rI s x 81 81 3 _ 8 ho Try.underlying81 infoInt rfl base _ v xs hs happ _ [([.int .i64 n], n)] hx ?_ ?_ (fun _ h => h.elim) (by simp; omega) (by simp; omega) hbase ?_
  · refine src_row Try.underlying81 hrow (fun u hu => ?_) rfl
    simp only [cellsOf, List.flatMap_cons, List.flatMap_nil, List.append_nil, List.mem_cons, List.not_mem_nil, or_false] at hu
    rcases hu with rfl
    rfl
  · intro p hp
    obtain rfl := List.mem_singleton.1 hp
    exact ⟨rfl, hn⟩
  · intro v' w' k1 k2 k3
    exact h v' w' k1 k2 k3

theorem step_appEnt {w : World} {ops : Array Oper} {o : Oper} {a : Act} {K : Act → World → Prop} {Q : Exit → Act → World → Prop} {E : Prop} (hgd : o.guard = none) (s x : Operand)
    (ho : o.op = .call { callee := .builtin .append, args := #[s, x], argTypes := #[49, 49] }) (base : Nat) (S : Nat → Prop)
    (v : Value) (xs : List Ent) (hs : a.eval s = v) (happ : OwnS rEnt 71 w base S v xs)
    (e : Ent) (fv : Value) (h0 : -9223372036854775808 ≤ e.1 ∧ e.1 ≤ 9223372036854775807) (h1 : e.2.1.size ≤ 9223372036854775807) (h2 : -9223372036854775808 ≤ e.2.2.1 ∧ e.2.2.1 ≤ 9223372036854775807) (h3 : e.2.2.2.1.size ≤ 9223372036854775807) (h4 : -9223372036854775808 ≤ e.2.2.2.2.1 ∧ e.2.2.2.2.1 ≤ 9223372036854775807) (h5 : RdS rF w S fv e.2.2.2.2.2) (hfv : fv.oneCell' = true) (gb : Nat) (hx : a.eval x = .slice (some ⟨gb, 0, none⟩) 1 1)
    (hrow : w.heap[gb]? = some (.cells #[.int .i64 e.1, .string e.2.1, .int .i64 e.2.2.1, .string e.2.2.2.1, .int .i64 e.2.2.2.2.1, fv] 71 (0, 0))) (hSlt : ∀ k, S k → k < w.heap.size) (hl : xs.length ≤ 1000000) (hbase : base ≤ w.heap.size)
    (h : ∀ v' w', OwnS rEnt 71 w' base S v' (xs ++ [e]) → w.grownBy w' v.ownBlock → (∀ k, v'.ownBlock = some k → v.ownBlock = some k ∨ w.heap.size ≤ k) → K (a.put o.dst v') w') :
    if Region.wanted o (yielded ops a.tmps) = true then Oper.wp Try.prog o a w K Q else E := by
  have hw : Region.wanted o (yielded ops a.tmps) = true := by simp [Region.wanted, hgd]
  rw [if_pos hw]
  refine wp_appS rEnt s x 49 49 71 _ 80 ho Try.underlying49 infoEnt rfl base S v xs hs happ _ [([.int .i64 e.1, .string e.2.1, .int .i64 e.2.2.1, .string e.2.2.2.1, .int .i64 e.2.2.2.2.1, fv], e)] hx ?_ ?_ hSlt (by simp; omega) (by simp; omega) hbase ?_
  · refine src_row Try.underlying49 hrow (fun u hu => ?_) rfl
    simp only [cellsOf, List.flatMap_cons, List.flatMap_nil, List.append_nil, List.mem_cons, List.not_mem_nil, or_false] at hu
    rcases hu with rfl | rfl | rfl | rfl | rfl | rfl
    · rfl
    · rfl
    · rfl
    · rfl
    · rfl
    · exact hfv
  · intro p hp
    obtain rfl := List.mem_singleton.1 hp
    exact ⟨[_], _, rfl, ⟨rfl, h0⟩, [_], _, rfl, ⟨rfl, h1⟩, [_], _, rfl, ⟨rfl, h2⟩, [_], _, rfl, ⟨rfl, h3⟩, [_], _, rfl, ⟨rfl, h4⟩, h5⟩
  · intro v' w' k1 k2 k3
    exact h v' w' k1 k2 k3

theorem IxP.storeStr {w : World} {g : Nat} {ρ : Nat → Option Rol} {ns nk : Nat} {x : Ix} {va : Value} {gs gk : Nat} {ms mk : ByteArray → Option Value} (h : IxP w g ρ ns nk x va gs gk ms mk) {s : ByteArray} (hs : s.size ≤ maxLen) (hns : ns < maxLen) {n : Int} {v' : Value} {wA wB : World} (hxA : Ext w wA)
    (ho : OwnS rI 3 wB 0 (fun _ => False) v' (x.str s ++ [n])) (hgB : wA.grownBy wB ((ms s).getD nilS).ownBlock) (hv' : ∀ k, v'.ownBlock = some k → ((ms s).getD nilS).ownBlock = some k ∨ wA.heap.size ≤ k) :
    MapG kStr wB gs ns ms ∧ (∀ p u, (ρ p.block = none ∨ p.block = g) → w.cell? p = some u → wB.cell? p = some u) ∧
    ∃ w', (Instr.mapUpdate 82 (.map (some gs)) (.string s) v').run Try.prog wB = .ok () w' ∧ IxP w' g (rolS ρ v' s) (ns + 1) nk { x with str := fun t => if t = s then x.str s ++ [n] else x.str t } va gs gk (upd ms s v') mk ∧ Keep (fun k => ρ k = none) w w' ∧ (∀ k, rolS ρ v' s k ≠ none → ρ k ≠ none ∨ w.heap.size ≤ k) ∧ w'.heap.size = wB.heap.size ∧ (∀ p u, (ρ p.block = none ∨ p.block = g) → w.cell? p = some u → w'.cell? p = some u) := by
  have hkB : Keep (fun j => ¬ ((ms s).getD nilS).ownBlock = some j) w wB := (hxA.keep _).trans ((keep_grown hgB).mono fun j hj _ e => hj e.symm)
  have hr : ∀ j, ((ms s).getD nilS).ownBlock = some j → ρ j = some (.row s) := fun j hj => h.rstr s hs j hj
  have hM : MapG kStr wB gs ns ms := h.str.kept hkB (fun e => by have := hr _ e; rw [h.rs] at this; simp at this)
  obtain ⟨w', hrun, hm, hg, hsz⟩ := hM.store Try.underlying82 hns (x := s) hs v'
  obtain ⟨h1, h2, h3⟩ := h.setStr hs hxA ho hgB hv' hm hg
  have hcB : ∀ p u, (ρ p.block = none ∨ p.block = g) → w.cell? p = some u → wB.cell? p = some u := fun p u hp hc => by
    refine hkB.cell hc (fun e => ?_)
    have := hr _ e
    rcases hp with hp | hp
    · rw [hp] at this; simp at this
    · rw [hp, h.rg] at this; simp at this
  refine ⟨hM, hcB, w', hrun, h1, h2, h3, hsz, fun p u hp hc => ?_⟩
  have hne : p.block ≠ gs := fun e => by
    rcases hp with hp | hp
    · rw [e, h.rs] at hp; simp at hp
    · exact h.ne1 (hp.symm.trans e)
  exact Keep.cell ((keep_grown hg).mono (S' := fun j => j ≠ gs) fun j hj _ e => hj (Option.some.inj e)) (hcB p u hp hc) hne
theorem IxP.allAt {w W : World} {g : Nat} {ρ : Nat → Option Rol} {ns nk : Nat} {x : Ix} {va : Value} {gs gk : Nat} {ms mk : ByteArray → Option Value} (h : IxP w g ρ ns nk x va gs gk ms mk) (hx : Ext w W) (B : Nat) : OwnS rEnt 71 W 0 (fun k => ρ k = some .elem ∨ (w.heap.size ≤ k ∧ k < B)) va x.all :=
  (h.all.ext hx).widen (fun k hk _ => .inl hk) (fun k hk hS => by
    have h1 := h.rall k hk
    rcases hS with hS | hS
    · rw [h1] at hS; simp at hS
    · have := h.lt k (by rw [h1]; simp); omega)
theorem IxP.storeAll {w wA wA' wB : World} {g : Nat} {ρ : Nat → Option Rol} {ns nk : Nat} {x : Ix} {va : Value} {gs gk : Nat} {ms mk : ByteArray → Option Value} (h : IxP w g ρ ns nk x va gs gk ms mk) {e : Ent} {v' : Value} (hxA : Ext w wA) (hxA' : Ext wA wA')
    (ho : OwnS rEnt 71 wB 0 (fun k => ρ k = some .elem ∨ (w.heap.size ≤ k ∧ k < wA.heap.size)) v' (x.all ++ [e])) (hgB : wA'.grownBy wB va.ownBlock) (hv' : ∀ k, v'.ownBlock = some k → va.ownBlock = some k ∨ wA'.heap.size ≤ k) :
    (∀ p u, (ρ p.block = none ∨ p.block = g) → w.cell? p = some u → wB.cell? p = some u) ∧ wB.frozen? ⟨g, 0, none⟩ = false ∧
    IxP (wB.setCell ⟨g, 0, none⟩ v') g (rolA ρ v' w.heap.size wA.heap.size) ns nk { x with all := x.all ++ [e] } v' gs gk ms mk ∧ Keep (fun k => ρ k = none) w (wB.setCell ⟨g, 0, none⟩ v') ∧ (∀ k, rolA ρ v' w.heap.size wA.heap.size k ≠ none → ρ k ≠ none ∨ w.heap.size ≤ k) := by
  obtain ⟨h1, h2, h3⟩ := h.setAll hxA hxA' ho hgB hv'
  have hkB : Keep (fun j => ¬ va.ownBlock = some j) w wB := ((hxA.trans hxA').keep _).trans ((keep_grown hgB).mono fun j hj _ e => hj e.symm)
  refine ⟨fun p u hp hc => hkB.cell hc (fun e => ?_), ?_, h1, h2, h3⟩
  · have := h.rall _ e
    rcases hp with hp | hp
    · rw [hp] at this; simp at this
    · rw [hp, h.rg] at this; simp at this
  · refine frozen_blk (c := #[va, .map (some gs), .map (some gk)]) (t := 85) ?_ 0
    rw [hkB.block g (fun e => by have := h.rall _ e; rw [h.rg] at this; simp at this) h.glt]
    exact h.head
theorem OwnS.snoc {α : Type} {r : Rdr α} {t : TypeId} {w : World} {base : Nat} {S : Nat → Prop} {v : Value} {xs : List α} {y : α} (h : OwnS r t w base S v (xs ++ [y])) : ∃ a c, v = .slice a (xs.length + 1) c := by
  obtain ⟨a, c, e⟩ := h.slice
  rw [List.length_append, List.length_singleton] at e
  exact ⟨a, c, e⟩
theorem elem_lt {w wA : World} {g : Nat} {ρ : Nat → Option Rol} {ns nk : Nat} {x : Ix} {va : Value} {gs gk : Nat} {ms mk : ByteArray → Option Value} (h : IxP w g ρ ns nk x va gs gk ms mk) (hs : w.heap.size ≤ wA.heap.size) (o : Obj) (k : Nat) (hk : ρ k = some .elem ∨ (w.heap.size ≤ k ∧ k < wA.heap.size)) : k < (wA.alloc o).heap.size := by
  rw [heap_alloc_sz]
  rcases hk with hk | hk
  · have := h.lt k (by rw [hk]; simp); omega
  · omega
theorem addEs_cons (s : ByteArray) (x : Ix) (n : Int) (e : Ev) (l : List Ev) : addEs s x n (e :: l) = addEs s (addE s x n e) (n + 1) l := rfl
theorem addE_str (s : ByteArray) (x : Ix) (n : Int) (e : Ev) : (addE s x n e).str s = x.str s ++ [(x.all.length : Int)] := by simp [addE, pushA, pushS]
theorem addE_all (s : ByteArray) (x : Ix) (n : Int) (e : Ev) : (addE s x n e).all.length = x.all.length + 1 := by simp [addE, pushA, pushS]

/-- Add's loop: what stands when i events have been added -/
def AddRel (w : World) (g gB : Nat) (row : Obj) (ρ : Nat → Option Rol) (s : ByteArray) (f : Int) (es : List Ev) (m nk' : Nat) (X : Ix) (i : Nat) (wr : World) : Prop :=
  ∃ ρ' : Nat → Option Rol, ∃ xi : Ix, IxAt wr g ρ' xi.all.length nk' xi ∧ addEs s xi (f + (i : Int)) (es.drop i) = X ∧ xi.all.length ≤ m + i ∧ m + i ≤ xi.all.length ∧ (xi.str s).length ≤ 100000 + i ∧ wr.heap[gB]? = some row ∧
    Keep (fun j => ρ j = none) w wr ∧ (∀ j, ρ' j ≠ none → ρ j ≠ none ∨ w.heap.size ≤ j) ∧ ρ' gB = none ∧ w.heap.size < wr.heap.size

theorem AddRel.step {w wo wb w7 w9 : World} {g gB : Nat} {row : Obj} {ρ ρ' ρ7 ρ9 : Nat → Option Rol} {s : ByteArray} {f : Int} {es : List Ev} {m nk' : Nat} {X xi : Ix} {i : Nat} {e : Ev} {va : Value} {gs gk : Nat} {ms mk : ByteArray → Option Value}
    (hadd : addEs s (addE s xi (f + (i : Int)) e) (f + (i : Int) + 1) (es.drop (i + 1)) = X) (h1 : xi.all.length ≤ m + i) (h2 : m + i ≤ xi.all.length) (h3 : (xi.str s).length ≤ 100000 + i) (hbx : wb.heap[gB]? = some row)
    (hkx : Keep (fun j => ρ j = none) w wo) (hrr : ∀ j, ρ' j ≠ none → ρ j ≠ none ∨ w.heap.size ≤ j) (hrb : ρ' gB = none) (hsx : w.heap.size < wo.heap.size)
    (hxb : Ext wo wb) (hk7 : Keep (fun j => ρ' j = none) wb w7) (hr7 : ∀ j, ρ7 j ≠ none → ρ' j ≠ none ∨ wb.heap.size ≤ j)
    (hp9 : IxP w9 g ρ9 (xi.all.length + 1) nk' (addE s xi (f + (i : Int)) e) va gs gk ms mk) (hk9 : Keep (fun j => ρ7 j = none) w7 w9) (hr9 : ∀ j, ρ9 j ≠ none → ρ7 j ≠ none ∨ w7.heap.size ≤ j) :
    AddRel w g gB row ρ s f es m nk' X (i + 1) w9 := by
  have hB := (Array.getElem?_eq_some_iff.1 hbx).1
  have z1 := hxb.size
  have z2 := hk7.size
  have z3 := hk9.size
  have hn7 : ∀ j, j < wb.heap.size → ρ' j = none → ρ7 j = none := fun j hj hr => by
    by_cases h : ρ7 j = none
    · exact h
    · rcases hr7 j h with h' | h'
      · exact absurd hr h'
      · omega
  have hk79 : Keep (fun j => ρ' j = none ∧ j < wb.heap.size) wb w9 := Keep.trans (S := fun j => ρ' j = none ∧ j < wb.heap.size) (hk7.mono fun j hj _ => hj.1) (hk9.mono fun j hj _ => hn7 j hj.2 hj.1)
  have hnS : ∀ j, ρ j = none ∧ j < w.heap.size → ρ' j = none := fun j hj => by
    by_cases h : ρ' j = none
    · exact h
    · rcases hrr j h with h' | h'
      · exact absurd hj.1 h'
      · omega
  refine ⟨ρ9, addE s xi (f + (i : Int)) e, ?_, ?_, by rw [addE_all]; omega, by rw [addE_all]; omega, by rw [addE_str, List.length_append, List.length_singleton]; omega, ?_, ?_, fun j hj => ?_, ?_, by omega⟩
  · rw [addE_all]
    exact ⟨_, gs, gk, _, mk, hp9⟩
  · rw [show f + ((i + 1 : Nat) : Int) = f + (i : Int) + 1 by omega]
    exact hadd
  · rw [hk79.block gB ⟨hrb, hB⟩ hB]
    exact hbx
  · have h5 : Keep (fun j => ρ j = none ∧ j < w.heap.size) w w9 := Keep.trans (hkx.mono fun j hj _ => hj.1) (Keep.trans (hxb.keep _) (hk79.mono fun j hj _ => ⟨hnS j hj, by have := hj.2; omega⟩))
    exact h5.mono fun j hj hl => ⟨hj, hl⟩
  · rcases hr9 j hj with h' | h'
    · rcases hr7 j h' with h' | h'
      · exact hrr j h'
      · right; omega
    · right; omega
  · by_cases h : ρ9 gB = none
    · exact h
    · rcases hr9 gB h with h' | h'
      · exact absurd (hn7 gB hB hrb) h'
      · omega
end Go.Proofs.Ythobhkmphjnlaaa
