/- Maps in memory: what a map's block holds, key by key, each element the bare value. -/
import Derived.Test.YthobhkmphjnlaaaRdr
import Derived.Maps.OwnSet
namespace Go.Proofs.Ythobhkmphjnlaaa
open Go.RowKit Go.Maps Go.WideShapes
set_option linter.unusedVariables false
set_option linter.unusedSimpArgs false

/-- an element is told as itself -/
def rawE (v : Value) : Option (DataW Value × List MemPlace) := some (.held v, [])
theorem rawE_inv {v : Value} {y : DataW Value × List MemPlace} (h : rawE v = some y) : y = (.held v, []) := (Option.some.inj h).symm

/-- a kind of keys -/
structure KeyK (κ : Type) where
  t : TypeId
  law : Keyed Try.prog t
  val : κ → Value
  lit : κ → Lit
  ok : κ → Prop
  key : ∀ {x}, ok x → keyOf Try.prog t (val x) = some (lit x)
  inj : ∀ {x y}, lit x = lit y → x = y

/-- block b is a map of at most n entries: at each key m -/
def MapG {κ : Type} (q : KeyK κ) (w : World) (b n : Nat) (m : κ → Option Value) : Prop :=
  ∃ D : DataW Value, w.ownsMap Try.prog q.t rawE b n D ∧ ∀ x, q.ok x → (m x = none ∧ Maps.has D (q.lit x) = false) ∨ ∃ v, m x = some v ∧ Maps.has D (q.lit x) = true ∧ ∀ z, D.atKey (q.lit x) z = .held v

def upd {κ α : Type} [DecidableEq κ] (m : κ → Option α) (x : κ) (v : α) : κ → Option α := fun y => if y = x then some v else m y
theorem upd_same {κ α : Type} [DecidableEq κ] (m : κ → Option α) (x : κ) (v : α) : upd m x v x = some v := by simp [upd]
theorem upd_other {κ α : Type} [DecidableEq κ] (m : κ → Option α) {x y : κ} (v : α) (h : y ≠ x) : upd m x v y = m y := by simp [upd, h]

section
variable {κ : Type} {q : KeyK κ} {w w' : World} {b n : Nat} {m : κ → Option Value}

theorem MapG.made (q : KeyK κ) (w : World) : MapG q (w.alloc (.map #[] 0)) w.heap.size 0 (fun _ => none) :=
  ⟨.map [], World.ownsMap_made w _ _ _, fun x _ => .inl ⟨rfl, rfl⟩⟩
theorem MapG.block (h : MapG q w b n m) (hb : w'.heap[b]? = w.heap[b]?) : MapG q w' b n m := by
  obtain ⟨D, ⟨es, clock, h1, h2, h3, h4⟩, h5⟩ := h
  exact ⟨D, ⟨es, clock, hb.trans h1, h2, h3, h4⟩, h5⟩
theorem MapG.lt (h : MapG q w b n m) : b < w.heap.size := by obtain ⟨D, h1, _⟩ := h; exact h1.lt
theorem MapG.kept {S : Nat → Prop} (h : MapG q w b n m) (hk : Keep S w w') (hs : S b) : MapG q w' b n m := h.block (hk.block b hs h.lt)
theorem MapG.ext (h : MapG q w b n m) (hk : Ext w w') : MapG q w' b n m := h.block (Below.block hk b h.lt)
theorem MapG.mono (h : MapG q w b n m) {n' : Nat} (hn : n ≤ n') : MapG q w b n' m := by obtain ⟨D, h1, h2⟩ := h; exact ⟨D, h1.mono hn, h2⟩

theorem MapG.look {t e : TypeId} (h : MapG q w b n m) (ht : Try.prog.underlying t = some (.map q.t e)) {z : Value} (hz : (zeroValue e).run Try.prog w = .ok z w) {x : κ} (hx : q.ok x) :
    (Instr.lookup t (.map (some b)) (q.val x) false).run Try.prog w = .ok ((m x).getD z) w := by
  obtain ⟨D, h1, h2⟩ := h
  obtain ⟨v, ps, hrun, hv⟩ := h1.lookup q.law ht hz (zd := .held z) (zp := []) rfl (q.key hx)
  have hv := rawE_inv hv
  simp only [Prod.mk.injEq] at hv
  rcases h2 x hx with ⟨e1, e2⟩ | ⟨u, e1, e2, e3⟩
  · have := atKey_of_not_has e2 (.held z)
    rw [this] at hv
    have := DataW.held.inj hv.1
    rw [hrun, e1, ← this]; rfl
  · rw [e3] at hv
    have := DataW.held.inj hv.1
    rw [hrun, e1, ← this]; rfl
theorem MapG.look_ok {t e : TypeId} (h : MapG q w b n m) (ht : Try.prog.underlying t = some (.map q.t e)) {z : Value} (hz : (zeroValue e).run Try.prog w = .ok z w) {x : κ} (hx : q.ok x) :
    (Instr.lookup t (.map (some b)) (q.val x) true).run Try.prog w = .ok (.tuple #[(m x).getD z, .bool (m x).isSome]) w := by
  obtain ⟨D, h1, h2⟩ := h
  obtain ⟨v, ps, hrun, hv⟩ := h1.look_ok q.law ht hz (zd := .held z) (zp := []) rfl (q.key hx)
  have hv := rawE_inv hv
  simp only [Prod.mk.injEq] at hv
  rcases h2 x hx with ⟨e1, e2⟩ | ⟨u, e1, e2, e3⟩
  · have := atKey_of_not_has e2 (.held z)
    rw [this] at hv
    have := DataW.held.inj hv.1
    rw [hrun, e1, e2, ← this]; rfl
  · rw [e3] at hv
    have := DataW.held.inj hv.1
    rw [hrun, e1, e2, ← this]; rfl
theorem MapG.store [DecidableEq κ] {t e : TypeId} (h : MapG q w b n m) (ht : Try.prog.underlying t = some (.map q.t e)) (hn : n < maxLen) {x : κ} (hx : q.ok x) (v : Value) :
    ∃ w', (Instr.mapUpdate t (.map (some b)) (q.val x) v).run Try.prog w = .ok () w' ∧ MapG q w' b (n + 1) (upd m x v) ∧ w.grownBy w' (some b) ∧ w'.heap.size = w.heap.size := by
  obtain ⟨D, h1, h2⟩ := h
  obtain ⟨w', hrun, h3, h4⟩ := h1.store q.law ht hn (q.key hx) (d := .held v) (ps := []) rfl
  have hkey := q.law.key (q.key hx)
  refine ⟨w', hrun, ⟨_, h3, fun y hy => ?_⟩, h4.grown, ?_⟩
  · by_cases hyx : y = x
    · subst hyx
      exact .inr ⟨v, upd_same _ _ _, has_put_same h1.isMap hkey _, fun z => atKey_put_same h1.isMap hkey _ z⟩
    · have hne : q.lit y ≠ q.lit x := fun e => hyx (q.inj e)
      rw [upd_other _ _ hyx]
      rcases h2 y hy with ⟨e1, e2⟩ | ⟨u, e1, e2, e3⟩
      · exact .inl ⟨e1, (has_put_other hne _).trans e2⟩
      · exact .inr ⟨u, e1, (has_put_other hne _).trans e2, fun z => (atKey_put_other hne _ z).trans (e3 z)⟩
  · obtain ⟨es, clock, es', clock', hb, rfl⟩ := h4
    simp [ChangeMaps.setBlock]
end
end Go.Proofs.Ythobhkmphjnlaaa
