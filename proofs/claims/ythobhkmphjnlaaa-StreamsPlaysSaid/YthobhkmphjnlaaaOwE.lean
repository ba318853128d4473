/- slices in rows of a call's own that may be written over: events and entries with such fields. -/
import Derived.Test.YthobhkmphjnlaaaStr
namespace Go.Proofs.Ythobhkmphjnlaaa
open Go.RowKit
set_option linter.unusedVariables false
set_option linter.unusedSimpArgs false

/-- a slice that reads as xs, in a row that no string shares -/
def rSlO {α : Type} (r : Rdr α) (t : TypeId) : Rdr (List α) where
  size := 1
  rd w S cs xs := ∃ v, cs = [v] ∧ (rSl r).rd w S [v] xs ∧ ∀ k, v.ownBlock = some k → S k ∧ ∃ cur, w.heap[k]? = some (.cells cur t (0, 0))
  len h := by obtain ⟨v, rfl, _⟩ := h; rfl
  one h u hu := by obtain ⟨v, rfl, h, _⟩ := h; exact (rSl r).one h u hu
  keep h hs hb hm := by
    obtain ⟨v, rfl, h, hr⟩ := h
    refine ⟨v, rfl, (rSl r).keep h hs hb hm, fun k hk => ?_⟩
    obtain ⟨h1, cur, h2⟩ := hr k hk
    have hl := (Array.getElem?_eq_some_iff.1 h2).1
    exact ⟨hm k h1 hl, cur, (hb k h1 hl).trans h2⟩
def RdSO {α : Type} (r : Rdr α) (t : TypeId) (w : World) (S : Nat → Prop) (v : Value) (xs : List α) : Prop := (rSlO r t).rd w S [v] xs
section
variable {α : Type} {r : Rdr α} {t : TypeId} {w w' : World} {S S' : Nat → Prop} {v : Value} {xs : List α}
theorem RdSO.kept (h : RdSO r t w S v xs) (hk : Keep S w w') : RdSO r t w' S v xs := Rdr.kept h hk
theorem RdSO.ext (h : RdSO r t w S v xs) (hk : Ext w w') : RdSO r t w' S v xs := Rdr.ext h hk
theorem RdSO.mono (h : RdSO r t w S v xs) (hs : ∀ k, S k → k < w.heap.size → S' k) : RdSO r t w S' v xs := Rdr.mono h hs
theorem RdSO.rd (h : RdSO r t w S v xs) : RdS r w S v xs := by
  obtain ⟨v', e, h, _⟩ := h
  obtain rfl := List.singleton_inj.1 e
  exact h
theorem RdSO.slice (h : RdSO r t w S v xs) : ∃ a cap, v = .slice a xs.length cap ∧ xs.length ≤ cap ∧ cap ≤ 9223372036854775807 := h.rd.slice
theorem RdSO.row (h : RdSO r t w S v xs) (k : Nat) (hk : v.ownBlock = some k) : S k ∧ ∃ cur, w.heap[k]? = some (.cells cur t (0, 0)) := by
  obtain ⟨v', e, _, h⟩ := h
  obtain rfl := List.singleton_inj.1 e
  exact h k hk
theorem RdSO.nil (r : Rdr α) (t : TypeId) (w : World) (S : Nat → Prop) : RdSO r t w S (.slice none 0 0) [] := ⟨_, rfl, RdS.nil _ _ _, fun k hk => by simp [Value.ownBlock] at hk⟩
theorem RdSO.upto {B : Nat} (h : RdSO r t w (fun k => B ≤ k) v xs) : RdSO r t w (fun k => B ≤ k ∧ k < w.heap.size) v xs := h.mono fun k hk hl => ⟨hk, hl⟩
theorem OwnS.row {base : Nat} (h : OwnS r t w base S v xs) (k : Nat) (hk : v.ownBlock = some k) : ∃ cur, w.heap[k]? = some (.cells cur t (0, 0)) := by
  obtain ⟨gs, rfl, ⟨h1, h2⟩, h3, h4⟩ := h
  rcases h2 with ⟨h2, h2'⟩ | ⟨g', cap', cur, h2, hb, hg, hn, hm, hcs, hx⟩
  · subst h2; simp [Value.ownBlock] at hk
  · subst h2
    simp only [Value.ownBlock, Option.map_some, Option.some.injEq] at hk
    subst hk
    exact ⟨cur, hg⟩
theorem OwnS.rdO {base : Nat} (h : OwnS r t w base S v xs) : RdSO r t w (fun k => S k ∨ v.ownBlock = some k) v xs := ⟨v, rfl, h.rd, fun k hk => ⟨.inr hk, h.row k hk⟩⟩
/-- read by a reader that asks less -/
theorem rSl_weak {r' : Rdr α} (hs : r.size = r'.size) (hw : ∀ {w S cs x}, r.rd w S cs x → r'.rd w S cs x) {cs : List Value} (h : (rSl r).rd w S cs xs) : (rSl r').rd w S cs xs := by
  obtain ⟨v, gs, rfl, rfl, h1, h2, h3⟩ := h
  exact ⟨v, gs, rfl, rfl, hs ▸ h1, h2, fun p hp => hw (h3 p hp)⟩
theorem RdS.weak {r' : Rdr α} (hs : r.size = r'.size) (hw : ∀ {w S cs x}, r.rd w S cs x → r'.rd w S cs x) (h : RdS r w S v xs) : RdS r' w S v xs := rSl_weak hs hw h
theorem OwnS.weak {r' : Rdr α} {base : Nat} (hs : r.size = r'.size) (hw : ∀ {w S cs x}, r.rd w S cs x → r'.rd w S cs x) (h : OwnS r t w base S v xs) : OwnS r' t w base S v xs := by
  obtain ⟨gs, rfl, h1, h2, h3⟩ := h
  exact ⟨gs, rfl, hs ▸ h1, h2, fun p hp => hw (h3 p hp)⟩
theorem rPair_weak {β : Type} {a a' : Rdr α} {b b' : Rdr β} (ha : ∀ {w S cs x}, a.rd w S cs x → a'.rd w S cs x) (hb : ∀ {w S cs x}, b.rd w S cs x → b'.rd w S cs x) {cs : List Value} {x : α × β} (h : (rPair a b).rd w S cs x) : (rPair a' b').rd w S cs x := by
  obtain ⟨c1, c2, rfl, h1, h2⟩ := h
  exact ⟨c1, c2, rfl, ha h1, hb h2⟩
end
abbrev rFO : Rdr (List Fld) := rSlO rF 108
def rEO : Rdr Ev := rPair rS (rPair rI rFO)
def rEntO : Rdr Ent := rPair rI (rPair rS (rPair rI rEO))
theorem rEO_size : rEO.size = 3 := rfl
theorem rEntO_size : rEntO.size = 6 := rfl
theorem rEO_weak {w : World} {S : Nat → Prop} {cs : List Value} {x : Ev} (h : rEO.rd w S cs x) : rE.rd w S cs x := by
  obtain ⟨c1, c2, rfl, h1, c3, c4, rfl, h2, h3⟩ := h
  obtain ⟨v, rfl, h4, _⟩ := h3
  exact ⟨c1, _, rfl, h1, c3, _, rfl, h2, h4⟩
theorem rEntO_weak {w : World} {S : Nat → Prop} {cs : List Value} {x : Ent} (h : rEntO.rd w S cs x) : rEnt.rd w S cs x := by
  obtain ⟨c1, c2, rfl, h1, c3, c4, rfl, h2, c5, c6, rfl, h3, h4⟩ := h
  exact ⟨c1, _, rfl, h1, c3, _, rfl, h2, c5, _, rfl, h3, rEO_weak h4⟩
/-- events in a row of one's own -/
abbrev RdEs (w : World) (S : Nat → Prop) (v : Value) (l : List Ev) : Prop := RdSO rEO 46 w S v l
theorem RdEs.read {w : World} {S : Nat → Prop} {v : Value} {l : List Ev} (h : RdEs w S v l) : RdS rE w S v l := RdS.weak (r := rEO) rfl rEO_weak (RdSO.rd h)
end Go.Proofs.Ythobhkmphjnlaaa
