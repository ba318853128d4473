/- An Index in memory: which blocks are whose, what they read as; what a store in each of them comes to. -/
import Derived.Test.YthobhkmphjnlaaaStrL
import Derived.Test.YthobhkmphjnlaaaMapT
import Derived.Test.YthobhkmphjnlaaaAppFE
import Derived.Test.YthobhkmphjnlaaaCur
namespace Go.Proofs.Ythobhkmphjnlaaa
open Go.RowKit
set_option linter.unusedVariables false
set_option linter.unusedSimpArgs false

def rEnt : Rdr Ent := rPair rI (rPair rS (rPair rI rE))
theorem infoEnt : (Try.prog.info? 71).map (fun i => (i.zero, i.size, i.bytes)) = some (some (.agg #[.int .i64 0, .string ⟨#[]⟩, .int .i64 0, .string ⟨#[]⟩, .int .i64 0, .slice none 0 0]), 6, 80) := by kernel_rfl
theorem infoInt : (Try.prog.info? 3).map (fun i => (i.zero, i.size, i.bytes)) = some (some (.int .i64 0), 1, 8) := by kernel_rfl

/-- what a block of an Index is -/
inductive Rol where
  | idx | smap | kmap | row0 | elem
  | row (s : ByteArray)

def encK (z : ByteArray × Apd) : Value := .agg #[.string z.1, .int .i64 z.2.1, .int .i64 z.2.2.1, .int .i64 z.2.2.2.1, .bool z.2.2.2.2]
def nilS : Value := .slice none 0 0

/-- the parts of an Index at block g -/
structure IxP (w : World) (g : Nat) (ρ : Nat → Option Rol) (ns nk : Nat) (x : Ix) (va : Value) (gs gk : Nat) (ms mk : ByteArray → Option Value) : Prop where
  head : w.heap[g]? = some (.cells #[va, .map (some gs), .map (some gk)] 85 (0, 0))
  rg : ρ g = some .idx
  all : OwnS rEnt 71 w 0 (fun k => ρ k = some .elem) va x.all
  rall : ∀ k, va.ownBlock = some k → ρ k = some .row0
  str : MapG kStr w gs ns ms
  rs : ρ gs = some .smap
  strs : ∀ s, s.size ≤ maxLen → OwnS rI 3 w 0 (fun _ => False) ((ms s).getD nilS) (x.str s)
  rstr : ∀ s, s.size ≤ maxLen → ∀ k, ((ms s).getD nilS).ownBlock = some k → ρ k = some (.row s)
  has : ∀ s, s.size ≤ maxLen → ((ms s).isSome = true ↔ x.str s ≠ [])
  key : MapG kStr w gk nk mk
  rk : ρ gk = some .kmap
  keys : ∀ s, s.size ≤ maxLen → mk s = (x.key s).map encK
  lt : ∀ k, ρ k ≠ none → k < w.heap.size

/-- block g is an Index that holds x, out of the blocks that ρ names -/
def IxAt (w : World) (g : Nat) (ρ : Nat → Option Rol) (ns nk : Nat) (x : Ix) : Prop := ∃ va gs gk ms mk, IxP w g ρ ns nk x va gs gk ms mk

section
variable {w w' : World} {g : Nat} {ρ : Nat → Option Rol} {ns nk : Nat} {x : Ix} {va : Value} {gs gk : Nat} {ms mk : ByteArray → Option Value}

theorem IxP.keep (h : IxP w g ρ ns nk x va gs gk ms mk) (hk : Keep (fun k => ρ k ≠ none) w w') : IxP w' g ρ ns nk x va gs gk ms mk where
  head := by rw [hk.block g (by rw [h.rg]; simp) (h.lt g (by rw [h.rg]; simp))]; exact h.head
  rg := h.rg
  all := h.all.kept (hk.mono fun k hs _ => by
    rcases hs with hs | hs
    · rw [hs]; simp
    · rw [h.rall k hs]; simp)
  rall := h.rall
  str := h.str.kept hk (by rw [h.rs]; simp)
  rs := h.rs
  strs s hs := (h.strs s hs).kept (hk.mono fun k hh _ => by
    rcases hh with hh | hh
    · exact hh.elim
    · rw [h.rstr s hs k hh]; simp)
  rstr := h.rstr
  has := h.has
  key := h.key.kept hk (by rw [h.rk]; simp)
  rk := h.rk
  keys := h.keys
  lt k hr := Nat.lt_of_lt_of_le (h.lt k hr) hk.size
theorem IxP.ext (h : IxP w g ρ ns nk x va gs gk ms mk) (hx : Ext w w') : IxP w' g ρ ns nk x va gs gk ms mk := h.keep (hx.keep _)
theorem IxAt.keep (h : IxAt w g ρ ns nk x) (hk : Keep (fun k => ρ k ≠ none) w w') : IxAt w' g ρ ns nk x := by
  obtain ⟨va, gs, gk, ms, mk, h⟩ := h; exact ⟨va, gs, gk, ms, mk, h.keep hk⟩
theorem IxAt.ext (h : IxAt w g ρ ns nk x) (hx : Ext w w') : IxAt w' g ρ ns nk x := h.keep (hx.keep _)
theorem IxP.mono (h : IxP w g ρ ns nk x va gs gk ms mk) {ns' nk' : Nat} (h1 : ns ≤ ns') (h2 : nk ≤ nk') : IxP w g ρ ns' nk' x va gs gk ms mk := { h with str := h.str.mono h1, key := h.key.mono h2 }
theorem IxAt.mono (h : IxAt w g ρ ns nk x) {ns' nk' : Nat} (h1 : ns ≤ ns') (h2 : nk ≤ nk') : IxAt w g ρ ns' nk' x := by
  obtain ⟨va, gs, gk, ms, mk, h⟩ := h; exact ⟨va, gs, gk, ms, mk, h.mono h1 h2⟩
theorem IxP.c0 (h : IxP w g ρ ns nk x va gs gk ms mk) : w.cell? ⟨g, 0, none⟩ = some va := (cell_of_row _ _ _ _ _ _ h.head).trans rfl
theorem IxP.c1 (h : IxP w g ρ ns nk x va gs gk ms mk) : w.cell? ⟨g, 1, none⟩ = some (.map (some gs)) := (cell_of_row _ _ _ _ _ _ h.head).trans rfl
theorem IxP.c2 (h : IxP w g ρ ns nk x va gs gk ms mk) : w.cell? ⟨g, 2, none⟩ = some (.map (some gk)) := (cell_of_row _ _ _ _ _ _ h.head).trans rfl
theorem IxP.glt (h : IxP w g ρ ns nk x va gs gk ms mk) : g < w.heap.size := h.lt g (by rw [h.rg]; simp)
theorem IxP.ne1 (h : IxP w g ρ ns nk x va gs gk ms mk) : g ≠ gs := fun e => by have := h.rg; rw [e, h.rs] at this; simp at this
theorem IxP.ne2 (h : IxP w g ρ ns nk x va gs gk ms mk) : g ≠ gk := fun e => by have := h.rg; rw [e, h.rk] at this; simp at this
theorem IxP.ne3 (h : IxP w g ρ ns nk x va gs gk ms mk) : gs ≠ gk := fun e => by have := h.rs; rw [e, h.rk] at this; simp at this

/-- behind 'x.keys[k] = ..' -/
theorem IxP.setKey (h : IxP w g ρ ns nk x va gs gk ms mk) {k : ByteArray} (hk : k.size ≤ maxLen) {z : ByteArray × Apd} (hm : MapG kStr w' gk (nk + 1) (upd mk k (encK z))) (hg : w.grownBy w' (some gk)) (hs : w'.heap.size = w.heap.size) :
    IxP w' g ρ ns (nk + 1) { x with key := fun t => if t = k then some z else x.key t } va gs gk ms (upd mk k (encK z)) := by
  have hkeep : Keep (fun j => j ≠ gk) w w' := (keep_grown hg).mono fun j hj _ e => hj (Option.some.inj e)
  exact {
    head := by rw [hkeep.block g h.ne2 h.glt]; exact h.head
    rg := h.rg
    all := h.all.kept (hkeep.mono fun j hj _ e => by
      subst e
      rcases hj with hj | hj
      · rw [h.rk] at hj; simp at hj
      · have := h.rall _ hj; rw [h.rk] at this; simp at this)
    rall := h.rall
    str := h.str.kept hkeep h.ne3
    rs := h.rs
    strs := fun s hs => (h.strs s hs).kept (hkeep.mono fun j hj _ e => by
      subst e
      rcases hj with hj | hj
      · exact hj.elim
      · have := h.rstr s hs _ hj; rw [h.rk] at this; simp at this)
    rstr := h.rstr
    has := h.has
    key := hm
    rk := h.rk
    keys := fun s hs => by
      by_cases e : s = k
      · subst e; rw [upd_same]; simp
      · rw [upd_other _ _ e, h.keys s hs]; simp [e]
    lt := fun j hj => by rw [hs]; exact h.lt j hj }

/-- the roles behind an append whose row is now v' -/
def rolS (ρ : Nat → Option Rol) (v' : Value) (s : ByteArray) : Nat → Option Rol := fun k => if v'.ownBlock = some k then some (.row s) else ρ k

/-- behind 'x.streams[s] = append(x.streams[s], n)' -/
theorem IxP.setStr {wA wB : World} (h : IxP w g ρ ns nk x va gs gk ms mk) {s : ByteArray} (hs : s.size ≤ maxLen) {n : Int} {v' : Value} (hxA : Ext w wA)
    (ho : OwnS rI 3 wB 0 (fun _ => False) v' (x.str s ++ [n])) (hgB : wA.grownBy wB ((ms s).getD nilS).ownBlock) (hv' : ∀ k, v'.ownBlock = some k → ((ms s).getD nilS).ownBlock = some k ∨ wA.heap.size ≤ k)
    (hm : MapG kStr w' gs (ns + 1) (upd ms s v')) (hg : wB.grownBy w' (some gs)) :
    IxP w' g (rolS ρ v' s) (ns + 1) nk { x with str := fun t => if t = s then x.str s ++ [n] else x.str t } va gs gk (upd ms s v') mk ∧ Keep (fun k => ρ k = none) w w' ∧ (∀ k, rolS ρ v' s k ≠ none → ρ k ≠ none ∨ w.heap.size ≤ k) := by
  have hkB : Keep (fun j => ¬ ((ms s).getD nilS).ownBlock = some j) w wB := (hxA.keep _).trans ((keep_grown hgB).mono fun j hj _ e => hj e.symm)
  have hkC : Keep (fun j => j ≠ gs) wB w' := (keep_grown hg).mono fun j hj _ e => hj (Option.some.inj e)
  have hk : Keep (fun j => ¬ ((ms s).getD nilS).ownBlock = some j ∧ j ≠ gs) w w' := (hkB.mono fun j hj _ => hj.1).trans (hkC.mono fun j hj _ => hj.2)
  have hold : ∀ k, ρ k ≠ none → ρ k ≠ some (.row s) → ¬ v'.ownBlock = some k := fun k h1 h2 e => by
    rcases hv' k e with e' | e'
    · exact h2 (h.rstr s hs k e')
    · have := h.lt k h1; have := hxA.size; omega
  have hro : ∀ k r, ρ k = some r → (∀ e, r ≠ .row e) → rolS ρ v' s k = some r ∧ (¬ ((ms s).getD nilS).ownBlock = some k) := fun k r h1 h2 => by
    refine ⟨?_, fun e => ?_⟩
    · unfold rolS
      rw [if_neg (hold k (by rw [h1]; simp) (by rw [h1]; intro e; exact h2 s (Option.some.inj e)))]
      exact h1
    · have := h.rstr s hs k e
      rw [h1] at this
      exact h2 s (Option.some.inj this)
  have hg0 := hro g _ h.rg (by simp)
  have hs0 := hro gs _ h.rs (by simp)
  have hk0 := hro gk _ h.rk (by simp)
  have hvlt : ∀ k, v'.ownBlock = some k → k < w'.heap.size := fun k hkk => Nat.lt_of_lt_of_le (ho.lt k hkk).2 hkC.size
  refine ⟨{
    head := by rw [hk.block g ⟨hg0.2, h.ne1⟩ h.glt]; exact h.head
    rg := hg0.1
    all := ?_
    rall := fun k hkk => (hro k _ (h.rall k hkk) (by simp)).1
    str := hm
    rs := hs0.1
    strs := fun t ht => ?_
    rstr := fun t ht k hkk => ?_
    has := fun t ht => ?_
    key := h.key.kept hk ⟨hk0.2, fun e => h.ne3 e.symm⟩
    rk := hk0.1
    keys := h.keys
    lt := fun k hr => ?_ }, hk.mono fun k hr _ => ⟨fun e => by have := h.rstr s hs k e; rw [hr] at this; simp at this, fun e => by rw [e, h.rs] at hr; simp at hr⟩, fun k hr => ?_⟩
  · have h1 := h.all.kept (hk.mono fun j hj _ => by
      rcases hj with hj | hj
      · exact ⟨(hro j _ hj (by simp)).2, fun e => by rw [e, h.rs] at hj; simp at hj⟩
      · have hj := h.rall j hj
        exact ⟨(hro j _ hj (by simp)).2, fun e => by rw [e, h.rs] at hj; simp at hj⟩)
    refine h1.widen (fun k he _ => (hro k _ he (by simp)).1) (fun k hkk he => ?_)
    have := (hro k _ (h.rall k hkk) (by simp)).1
    rw [this] at he
    simp at he
  · by_cases e : t = s
    · subst e
      rw [upd_same]
      simp only [if_true, Option.getD_some]
      refine ho.kept (hkC.mono fun j hj _ e => ?_)
      subst e
      rcases hj with hj | hj
      · exact hj.elim
      · rcases hv' _ hj with hj | hj
        · exact hs0.2 hj
        · have := h.str.lt; have := hxA.size; omega
    · rw [upd_other _ _ e]
      simp only [if_neg e]
      refine (h.strs t ht).kept (hk.mono fun j hj _ => ?_)
      rcases hj with hj | hj
      · exact hj.elim
      · have h1 := h.rstr t ht j hj
        refine ⟨fun e' => ?_, fun e' => by rw [e', h.rs] at h1; simp at h1⟩
        have h2 := h.rstr s hs j e'
        rw [h1] at h2
        simp only [Option.some.injEq, Rol.row.injEq] at h2
        exact e h2
  · by_cases e : t = s
    · subst e
      rw [upd_same] at hkk
      simp only [Option.getD_some] at hkk
      unfold rolS
      rw [if_pos hkk]
    · rw [upd_other _ _ e] at hkk
      have h1 := h.rstr t ht k hkk
      unfold rolS
      rw [if_neg (hold k (by rw [h1]; simp) (by rw [h1]; intro e'; simp only [Option.some.injEq, Rol.row.injEq] at e'; exact e e'))]
      exact h1
  · by_cases e : t = s
    · subst e
      rw [upd_same]; simp
    · rw [upd_other _ _ e]
      simp only [if_neg e]
      exact h.has t ht
  · unfold rolS at hr
    split at hr
    · rename_i hv; exact hvlt k hv
    · exact Nat.lt_of_lt_of_le (h.lt k hr) hk.size
  · unfold rolS at hr
    split at hr
    · rename_i hv
      rcases hv' k hv with e | e
      · left; rw [h.rstr s hs k e]; simp
      · right; have := hxA.size; omega
    · exact .inl hr

/-- the roles behind 'x.all = append(x.all, ..)': v' the row, from lo to hi the new entry's own blocks -/
def rolA (ρ : Nat → Option Rol) (v' : Value) (lo hi : Nat) : Nat → Option Rol := fun k => if v'.ownBlock = some k then some .row0 else if lo ≤ k ∧ k < hi then some .elem else ρ k

/-- behind 'x.all = append(x.all, e)' -/
theorem IxP.setAll {wA wA' wB : World} (h : IxP w g ρ ns nk x va gs gk ms mk) {e : Ent} {v' : Value} (hxA : Ext w wA) (hxA' : Ext wA wA')
    (ho : OwnS rEnt 71 wB 0 (fun k => ρ k = some .elem ∨ (w.heap.size ≤ k ∧ k < wA.heap.size)) v' (x.all ++ [e])) (hgB : wA'.grownBy wB va.ownBlock) (hv' : ∀ k, v'.ownBlock = some k → va.ownBlock = some k ∨ wA'.heap.size ≤ k) :
    IxP (wB.setCell ⟨g, 0, none⟩ v') g (rolA ρ v' w.heap.size wA.heap.size) ns nk { x with all := x.all ++ [e] } v' gs gk ms mk ∧ Keep (fun k => ρ k = none) w (wB.setCell ⟨g, 0, none⟩ v') ∧ (∀ k, rolA ρ v' w.heap.size wA.heap.size k ≠ none → ρ k ≠ none ∨ w.heap.size ≤ k) := by
  have hsA := hxA.size
  have hsA' := hxA'.size
  have hkB : Keep (fun j => ¬ va.ownBlock = some j) w wB := ((hxA.trans hxA').keep _).trans ((keep_grown hgB).mono fun j hj _ e => hj e.symm)
  have hkC : Keep (fun j => j ≠ g) wB (wB.setCell ⟨g, 0, none⟩ v') := (Keep.refl _ wB).setCell (by simp) _
  have hk : Keep (fun j => ¬ va.ownBlock = some j ∧ j ≠ g) w (wB.setCell ⟨g, 0, none⟩ v') := (hkB.mono fun j hj _ => hj.1).trans (hkC.mono fun j hj _ => hj.2)
  have hro : ∀ k r, ρ k = some r → r ≠ .row0 → rolA ρ v' w.heap.size wA.heap.size k = some r ∧ ¬ va.ownBlock = some k := fun k r h1 h2 => by
    have hlt := h.lt k (by rw [h1]; simp)
    have h3 : ¬ va.ownBlock = some k := fun e => by
      have := h.rall k e
      rw [h1] at this
      exact h2 (Option.some.inj this)
    refine ⟨?_, h3⟩
    unfold rolA
    rw [if_neg (fun e => by rcases hv' k e with e' | e'; exact h3 e'; omega), if_neg (by omega)]
    exact h1
  have hg0 := hro g _ h.rg (by simp)
  have hs0 := hro gs _ h.rs (by simp)
  have hk0 := hro gk _ h.rk (by simp)
  have hgl := h.glt
  have hgB2 : wB.heap[g]? = some (.cells #[va, .map (some gs), .map (some gk)] 85 (0, 0)) := by rw [hkB.block g hg0.2 hgl]; exact h.head
  refine ⟨{
    head := by rw [set_blk hgB2]; rfl
    rg := hg0.1
    all := ?_
    rall := fun k hkk => by unfold rolA; rw [if_pos hkk]
    str := h.str.kept hk ⟨hs0.2, fun e => h.ne1 e.symm⟩
    rs := hs0.1
    strs := fun t ht => (h.strs t ht).kept (hk.mono fun j hj _ => ?_)
    rstr := fun t ht k hkk => (hro k _ (h.rstr t ht k hkk) (by simp)).1
    has := h.has
    key := h.key.kept hk ⟨hk0.2, fun e => h.ne2 e.symm⟩
    rk := hk0.1
    keys := h.keys
    lt := fun k hr => ?_ }, hk.mono fun k hr _ => ⟨fun e => by have := h.rall k e; rw [hr] at this; simp at this, fun e => by rw [e, h.rg] at hr; simp at hr⟩, fun k hr => ?_⟩
  · have h1 := ho.kept (hkC.mono fun j hj _ e => by
      subst e
      rcases hj with hj | hj
      · rcases hj with hj | hj
        · rw [h.rg] at hj; simp at hj
        · omega
      · rcases hv' _ hj with hj | hj
        · exact hg0.2 hj
        · omega)
    refine h1.widen (fun k he _ => ?_) (fun k hkk he => ?_)
    · rcases he with he | he
      · exact (hro k _ he (by simp)).1
      · unfold rolA
        rw [if_neg, if_pos he]
        intro e'
        rcases hv' k e' with e' | e'
        · have := h.lt k (by rw [h.rall k e']; simp); omega
        · omega
    · unfold rolA at he
      rw [if_pos hkk] at he
      simp at he
  · rcases hj with hj | hj
    · exact hj.elim
    · have h1 := h.rstr t ht j hj
      exact ⟨(hro j _ h1 (by simp)).2, fun e => by rw [e, h.rg] at h1; simp at h1⟩
  · unfold rolA at hr
    split at hr
    · rename_i hv
      exact Nat.lt_of_lt_of_le (ho.lt k hv).2 hkC.size
    · split at hr
      · rename_i hv
        have := hgB.size
        have := hkC.size
        omega
      · exact Nat.lt_of_lt_of_le (h.lt k hr) hk.size
  · unfold rolA at hr
    split at hr
    · rename_i hv
      rcases hv' k hv with e | e
      · left; rw [h.rall k e]; simp
      · right; omega
    · split at hr
      · rename_i hv; right; omega
      · exact .inl hr
end
end Go.Proofs.Ythobhkmphjnlaaa
