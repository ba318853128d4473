/- Data in memory, by shape: what some cells read as (a Rdr), and which blocks that leans on; worlds that keep what was there (Ext, Keep); rows of the call's own. -/
import Derived.Test.YthobhkmphjnlaaaPutA
namespace Go.Proofs.Ythobhkmphjnlaaa
open Go.RowKit
set_option linter.unusedVariables false
set_option linter.unusedSimpArgs false

/-! ### worlds -/

/-- nothing that was there has turned -/
def Ext (w w' : World) : Prop := Below w.heap.size w w'
theorem Ext.of {w w' : World} (h : Below w.heap.size w w') : Ext w w' := h
theorem Ext.refl (w : World) : Ext w w := Below.refl _ _
theorem Ext.trans {a b c : World} (h : Ext a b) (k : Ext b c) : Ext a c := Below.trans h (Below.mono k h.size)
theorem Ext.snart {a b c : World} (k : Ext b c) (h : Ext a b) : Ext a c := h.trans k
theorem Ext.alloc {a w : World} (h : Ext a w) (o : Obj) : Ext a (w.alloc o) := Below.alloc h h.size o
theorem Ext.drew {a w : World} (h : Ext a w) : Ext a w.drew := Below.drew h
theorem Ext.drewN {a w : World} (h : Ext a w) (n : Nat) : Ext a (w.drewN n) := below_drewN h n
theorem Ext.below {a w : World} (h : Ext a w) : Below a.heap.size a w := h
theorem Ext.setCell {a w : World} (h : Ext a w) {p : Addr} (hp : a.heap.size ≤ p.block) (u : Value) : Ext a (w.setCell p u) := Below.setCell h hp u
theorem Ext.grown {a w w' : World} {row : Option Nat} (h : Ext a w) (hg : w.grownBy w' row) (hr : ∀ k, row = some k → a.heap.size ≤ k) : Ext a w' := Below.grown h hg h.size hr
theorem Ext.step {a w w' : World} {B : Nat} (h : Ext a w) (hb : Below B w w') (hB : a.heap.size ≤ B) : Ext a w' := Below.trans h (Below.mono hb hB)
theorem Ext.size {a w : World} (h : Ext a w) : a.heap.size ≤ w.heap.size := Below.size h
theorem Ext.cell {a w : World} (h : Ext a w) {p : Addr} (hp : p.block < a.heap.size) : w.cell? p = a.cell? p := Below.cell h hp
theorem Ext.cellS {a w : World} (h : Ext a w) {p : Addr} {v : Value} (hc : a.cell? p = some v) : w.cell? p = some v := by
  rw [Below.cell h (World.block_lt_of_cell? _ _ hc)]; exact hc

theorem RdB.nil (w : World) : RdB w (.slice none 0 0) [] := Rd.nil _ _
theorem RdB.ext {w w' : World} {v : Value} {l : List UInt8} (h : RdB w v l) (hx : Ext w w') : RdB w' v l := h.below hx
theorem OwnB.ext {w w' : World} {base : Nat} {v : Value} {l : List UInt8} (h : OwnB w base v l) (hx : Ext w w') : OwnB w' base v l := own_belowS h hx

theorem NewB.open {l : List UInt8} {w : World} {e : Ending} {w' : World} (h : NewB l w e w') : ∃ v' X, X = l ∧ e = .returned v' ∧ OwnB w' w.heap.size v' X ∧ Below w.heap.size w w' := by
  obtain ⟨v', h1, h2, h3⟩ := h
  exact ⟨v', l, rfl, h1, h2, h3⟩

/-- the blocks of S stay as they were -/
structure Keep (S : Nat → Prop) (w w' : World) : Prop where
  os : w'.os = w.os
  tape : w'.tape = w.tape
  output : w'.output = w.output
  size : w.heap.size ≤ w'.heap.size
  block : ∀ k, S k → k < w.heap.size → w'.heap[k]? = w.heap[k]?
theorem Keep.refl (S : Nat → Prop) (w : World) : Keep S w w := ⟨rfl, rfl, rfl, Nat.le_refl _, fun _ _ _ => rfl⟩
theorem Keep.trans {S : Nat → Prop} {a b c : World} (h : Keep S a b) (k : Keep S b c) : Keep S a c :=
  ⟨k.os.trans h.os, k.tape.trans h.tape, k.output.trans h.output, Nat.le_trans h.size k.size, fun i hi hl => (k.block i hi (Nat.lt_of_lt_of_le hl h.size)).trans (h.block i hi hl)⟩
theorem Keep.mono {S S' : Nat → Prop} {w w' : World} (h : Keep S w w') (hs : ∀ k, S' k → k < w.heap.size → S k) : Keep S' w w' := ⟨h.os, h.tape, h.output, h.size, fun k hk hl => h.block k (hs k hk hl) hl⟩
theorem Keep.ext {w w' : World} (h : Keep (fun _ => True) w w') : Ext w w' := ⟨h.os, h.tape, h.output, h.size, fun k hk => h.block k trivial hk⟩
theorem Ext.keep {w w' : World} (h : Ext w w') (S : Nat → Prop) : Keep S w w' := ⟨h.os, h.tape, h.output, Below.size h, fun k _ hl => Below.block h k hl⟩
theorem Keep.below {S : Nat → Prop} {w w' : World} (h : Keep S w w') (B : Nat) (hB : B ≤ w.heap.size) (hS : ∀ k, k < B → S k) : Below B w w' := ⟨h.os, h.tape, h.output, h.size, fun k hk => h.block k (hS k hk) (by omega)⟩
theorem Below.keep {B : Nat} {w w' : World} (h : Below B w w') : Keep (fun k => k < B) w w' := ⟨h.os, h.tape, h.output, h.size, fun k hk _ => h.block k hk⟩
theorem keep_grown {w w' : World} {row : Option Nat} (h : w.grownBy w' row) : Keep (fun k => some k ≠ row) w w' := ⟨h.os, h.tape, h.output, h.size, fun k hk hl => h.block k hl hk⟩
theorem Keep.alloc {S : Nat → Prop} {a w : World} (h : Keep S a w) (o : Obj) : Keep S a (w.alloc o) := h.trans (Ext.keep ((Ext.refl w).alloc o) S)
theorem Keep.drew {S : Nat → Prop} {a w : World} (h : Keep S a w) : Keep S a w.drew := h.trans (Ext.keep ((Ext.refl w).drew) S)
theorem Keep.setCell {S : Nat → Prop} {a w : World} (h : Keep S a w) {p : Addr} (hp : ¬ S p.block) (u : Value) : Keep S a (w.setCell p u) :=
  h.trans ⟨rfl, rfl, rfl, by simp [World.setCell], fun k hk hl => Below.heap_setCell _ _ _ _ (fun e => hp (e ▸ hk))⟩
theorem Keep.cell {S : Nat → Prop} {w w' : World} (h : Keep S w w') {p : Addr} {v : Value} (hc : w.cell? p = some v) (hp : S p.block) : w'.cell? p = some v := by
  rw [World.cell?_of_block (w := w) (h.block p.block hp (World.block_lt_of_cell? _ _ hc))]; exact hc

/-! ### shapes -/

structure Rdr (α : Type) where
  size : Nat
  rd : World → (Nat → Prop) → List Value → α → Prop
  len : ∀ {w S cs x}, rd w S cs x → cs.length = size
  one : ∀ {w S cs x}, rd w S cs x → ∀ u ∈ cs, u.oneCell' = true
  keep : ∀ {w w' S S' cs x}, rd w S cs x → w.heap.size ≤ w'.heap.size → (∀ k, S k → k < w.heap.size → w'.heap[k]? = w.heap[k]?) → (∀ k, S k → k < w.heap.size → S' k) → rd w' S' cs x

theorem Rdr.kept {α : Type} {r : Rdr α} {w w' : World} {S : Nat → Prop} {cs : List Value} {x : α} (h : r.rd w S cs x) (hk : Keep S w w') : r.rd w' S cs x := r.keep h hk.size hk.block fun _ h _ => h
theorem Rdr.ext {α : Type} {r : Rdr α} {w w' : World} {S : Nat → Prop} {cs : List Value} {x : α} (h : r.rd w S cs x) (hk : Ext w w') : r.rd w' S cs x := r.keep h hk.size (fun k _ hl => Below.block hk k hl) fun _ h _ => h
theorem Rdr.mono {α : Type} {r : Rdr α} {w : World} {S S' : Nat → Prop} {cs : List Value} {x : α} (h : r.rd w S cs x) (hs : ∀ k, S k → k < w.heap.size → S' k) : r.rd w S' cs x := r.keep h (Nat.le_refl _) (fun _ _ _ => rfl) hs

def rI : Rdr Int where
  size := 1
  rd _ _ cs n := cs = [.int .i64 n] ∧ -9223372036854775808 ≤ n ∧ n ≤ 9223372036854775807
  len h := by rw [h.1]; rfl
  one h u hu := by rw [h.1] at hu; obtain rfl := List.mem_singleton.1 hu; rfl
  keep h _ _ _ := h
def rBo : Rdr Bool where
  size := 1
  rd _ _ cs b := cs = [.bool b]
  len h := by rw [h]; rfl
  one h u hu := by rw [h] at hu; obtain rfl := List.mem_singleton.1 hu; rfl
  keep h _ _ _ := h
def rS : Rdr ByteArray where
  size := 1
  rd _ _ cs s := cs = [.string s] ∧ s.size ≤ 9223372036854775807
  len h := by rw [h.1]; rfl
  one h u hu := by rw [h.1] at hu; obtain rfl := List.mem_singleton.1 hu; rfl
  keep h _ _ _ := h

theorem Rd.carry0 {w w' : World} {size n : Nat} {v : Value} {xs : List Value} (h : Rd w size v n xs) (hs : w.heap.size ≤ w'.heap.size)
    (hb : 0 < n → ∀ k, v.ownBlock = some k → k < w.heap.size → w'.heap[k]? = w.heap[k]?) : Rd w' size v n xs := by
  obtain ⟨a, cap, rfl, h1, h2, h3, h4⟩ := h
  refine ⟨a, cap, rfl, h1, h2, h3, fun hn => ?_⟩
  obtain ⟨g, o, rfl, hg, hc⟩ := h4 hn
  refine ⟨g, o, rfl, by omega, fun j hj => ?_⟩
  rw [block_ext (hb hn g rfl hg), hc j hj]
theorem Rd.oneCell {w : World} {size n : Nat} {v : Value} {xs : List Value} (h : Rd w size v n xs) : v.oneCell' = true := by
  obtain ⟨a, cap, rfl, _⟩ := h; rfl

def rBs : Rdr (List UInt8) where
  size := 1
  rd w S cs l := ∃ v, cs = [v] ∧ RdB w v l ∧ (0 < l.length → ∀ k, v.ownBlock = some k → S k)
  len h := by obtain ⟨v, rfl, _⟩ := h; rfl
  one h u hu := by obtain ⟨v, rfl, h, _⟩ := h; obtain rfl := List.mem_singleton.1 hu; exact Rd.oneCell h
  keep h hs hb hm := by
    obtain ⟨v, rfl, h, hS⟩ := h
    exact ⟨v, rfl, Rd.carry0 h hs fun hn k hk hl => hb k (hS hn k hk) hl, fun hn k hk => hm k (hS hn k hk) (Rd.block_lt h hn k hk)⟩

def rPair {α β : Type} (a : Rdr α) (b : Rdr β) : Rdr (α × β) where
  size := a.size + b.size
  rd w S cs x := ∃ c1 c2, cs = c1 ++ c2 ∧ a.rd w S c1 x.1 ∧ b.rd w S c2 x.2
  len h := by obtain ⟨c1, c2, rfl, h1, h2⟩ := h; rw [List.length_append, a.len h1, b.len h2]
  one h u hu := by
    obtain ⟨c1, c2, rfl, h1, h2⟩ := h
    rcases List.mem_append.1 hu with hu | hu
    · exact a.one h1 u hu
    · exact b.one h2 u hu
  keep h hs hb hm := by
    obtain ⟨c1, c2, rfl, h1, h2⟩ := h
    exact ⟨c1, c2, rfl, a.keep h1 hs hb hm, b.keep h2 hs hb hm⟩

def cellsOf {α : Type} (gs : List (List Value × α)) : List Value := gs.flatMap (·.1)
theorem cellsOf_snoc {α : Type} (gs : List (List Value × α)) (g : List Value × α) : cellsOf (gs ++ [g]) = cellsOf gs ++ g.1 := by simp [cellsOf]
theorem cellsOf_len {α : Type} (gs : List (List Value × α)) (n : Nat) (h : ∀ g ∈ gs, g.1.length = n) : (cellsOf gs).length = gs.length * n := by
  induction gs with
  | nil => simp [cellsOf]
  | cons g gs ih =>
    have := ih fun g hg => h g (by simp [hg])
    have h0 := h g (by simp)
    simp only [cellsOf, List.flatMap_cons, List.length_append, List.length_cons] at this ⊢
    rw [this, h0, Nat.add_mul]; omega
theorem cellsOf_get {α : Type} (gs : List (List Value × α)) (n : Nat) : (∀ g ∈ gs, g.1.length = n) → ∀ (i : Nat) (hi : i < gs.length) (j : Nat), j < n → (cellsOf gs)[i * n + j]? = gs[i].1[j]? := by
  induction gs with
  | nil => intro _ i hi; simp at hi
  | cons g gs ih =>
    intro h i hi j hj
    have h0 := h g (by simp)
    have hc : cellsOf (g :: gs) = g.1 ++ cellsOf gs := by simp [cellsOf]
    rw [hc]
    cases i with
    | zero => rw [Nat.zero_mul, Nat.zero_add, List.getElem?_append_left (by omega)]; rfl
    | succ i =>
      rw [List.getElem?_append_right (by rw [h0, Nat.add_mul]; omega), h0, show (i + 1) * n + j - n = i * n + j from by rw [Nat.add_mul]; omega]
      exact ih (fun g hg => h g (by simp [hg])) i (by simpa using hi) j hj

/-- a slice -/
def rSl {α : Type} (r : Rdr α) : Rdr (List α) where
  size := 1
  rd w S cs xs := ∃ v gs, cs = [v] ∧ xs = gs.map (·.2) ∧ Rd w r.size v gs.length (cellsOf gs) ∧ (0 < gs.length → ∀ k, v.ownBlock = some k → S k) ∧ ∀ p ∈ gs, r.rd w S p.1 p.2
  len h := by obtain ⟨v, gs, rfl, _⟩ := h; rfl
  one h u hu := by obtain ⟨v, gs, rfl, _, h, _⟩ := h; obtain rfl := List.mem_singleton.1 hu; exact Rd.oneCell h
  keep h hs hb hm := by
    obtain ⟨v, gs, rfl, rfl, h, hS, hp⟩ := h
    exact ⟨v, gs, rfl, rfl, Rd.carry0 h hs fun hn k hk hl => hb k (hS hn k hk) hl, fun hn k hk => hm k (hS hn k hk) (Rd.block_lt h hn k hk), fun p hp' => r.keep (hp p hp') hs hb hm⟩

/-- v is a slice that reads as xs, out of blocks of S -/
def RdS {α : Type} (r : Rdr α) (w : World) (S : Nat → Prop) (v : Value) (xs : List α) : Prop := (rSl r).rd w S [v] xs

theorem RdS.kept {α : Type} {r : Rdr α} {w w' : World} {S : Nat → Prop} {v : Value} {xs : List α} (h : RdS r w S v xs) (hk : Keep S w w') : RdS r w' S v xs := Rdr.kept h hk
theorem RdS.ext {α : Type} {r : Rdr α} {w w' : World} {S : Nat → Prop} {v : Value} {xs : List α} (h : RdS r w S v xs) (hk : Ext w w') : RdS r w' S v xs := Rdr.ext h hk
theorem RdS.mono {α : Type} {r : Rdr α} {w : World} {S S' : Nat → Prop} {v : Value} {xs : List α} (h : RdS r w S v xs) (hs : ∀ k, S k → k < w.heap.size → S' k) : RdS r w S' v xs := Rdr.mono h hs
theorem RdS.nil {α : Type} (r : Rdr α) (w : World) (S : Nat → Prop) : RdS r w S (.slice none 0 0) [] := ⟨_, [], rfl, rfl, Rd.nil _ _, fun h => absurd h (by simp), by simp⟩
theorem RdS.slice {α : Type} {r : Rdr α} {w : World} {S : Nat → Prop} {v : Value} {xs : List α} (h : RdS r w S v xs) : ∃ a cap, v = .slice a xs.length cap ∧ xs.length ≤ cap ∧ cap ≤ 9223372036854775807 := by
  obtain ⟨v', gs, e, rfl, ⟨a, cap, rfl, h1, h2, _⟩, _⟩ := h
  obtain rfl := List.singleton_inj.1 e
  exact ⟨a, cap, by rw [List.length_map], by rw [List.length_map]; exact h1, by unfold maxLen at h2; omega⟩

/-- an element -/
theorem RdS.at {α : Type} {r : Rdr α} {w : World} {S : Nat → Prop} {v : Value} {xs : List α} (h : RdS r w S v xs) (i : Nat) (hi : i < xs.length) :
    ∃ g o cap cs, v = .slice (some ⟨g, o, none⟩) xs.length cap ∧ g < w.heap.size ∧ S g ∧ cs.length = r.size ∧ (∀ j u, cs[j]? = some u → w.cell? ⟨g, o + (i * r.size + j), none⟩ = some u) ∧ r.rd w S cs xs[i] := by
  obtain ⟨v', gs, e, rfl, ⟨a, cap, rfl, h1, h2, h3, h4⟩, hS, hp⟩ := h
  obtain rfl := List.singleton_inj.1 e
  rw [List.length_map] at hi
  obtain ⟨g, o, rfl, hg, hc⟩ := h4 (by omega)
  have hlen : ∀ p ∈ gs, p.1.length = r.size := fun p hp' => r.len (hp p hp')
  have hmem := List.getElem_mem hi
  refine ⟨g, o, cap, gs[i].1, by rw [List.length_map], hg, hS (by omega) g rfl, hlen _ hmem, fun j u hu => ?_, by rw [List.getElem_map]; exact hp _ hmem⟩
  have hj : j < r.size := by rw [← hlen _ hmem]; exact (List.getElem?_eq_some_iff.1 hu).1
  rw [hc _ ?_, cellsOf_get gs r.size hlen i hi j hj, hu]
  have : (i + 1) * r.size ≤ gs.length * r.size := Nat.mul_le_mul_right _ hi
  rw [Nat.add_mul] at this; omega

theorem RdS.atS {w : World} {S : Nat → Prop} {v : Value} {xs : List ByteArray} (h : RdS rS w S v xs) (i : Nat) (hi : i < xs.length) :
    ∃ g o cap, v = .slice (some ⟨g, o, none⟩) xs.length cap ∧ g < w.heap.size ∧ S g ∧ w.cell? ⟨g, o + i, none⟩ = some (.string xs[i]) ∧ xs[i].size ≤ 9223372036854775807 := by
  obtain ⟨g, o, cap, cs, rfl, hg, hS, _, hc, rfl, hsz⟩ := h.at i hi
  refine ⟨g, o, cap, rfl, hg, hS, ?_, hsz⟩
  have := hc 0 _ rfl
  simpa [rS] using this
theorem RdS.atI {w : World} {S : Nat → Prop} {v : Value} {xs : List Int} (h : RdS rI w S v xs) (i : Nat) (hi : i < xs.length) :
    ∃ g o cap, v = .slice (some ⟨g, o, none⟩) xs.length cap ∧ g < w.heap.size ∧ S g ∧ w.cell? ⟨g, o + i, none⟩ = some (.int .i64 xs[i]) ∧ -9223372036854775808 ≤ xs[i] ∧ xs[i] ≤ 9223372036854775807 := by
  obtain ⟨g, o, cap, cs, rfl, hg, hS, _, hc, rfl, hsz⟩ := h.at i hi
  refine ⟨g, o, cap, rfl, hg, hS, ?_, hsz⟩
  have := hc 0 _ rfl
  simpa [rI] using this

theorem cut_gs {α : Type} (gs : List (List Value × α)) (n : Nat) (h : ∀ g ∈ gs, g.1.length = n) (l : Nat) : cellsOf (gs.drop l) = (cellsOf gs).drop (l * n) := by
  induction l generalizing gs with
  | zero => simp
  | succ l ih =>
    cases gs with
    | nil => simp [cellsOf]
    | cons g gs =>
      rw [List.drop_succ_cons, ih gs (fun g hg => h g (by simp [hg]))]
      have h0 := h g (by simp)
      have hc : cellsOf (g :: gs) = g.1 ++ cellsOf gs := by simp [cellsOf]
      rw [hc, show (l + 1) * n = g.1.length + l * n from by rw [h0, Nat.add_mul]; omega, ← List.drop_drop, List.drop_left]
theorem take_gs {α : Type} (gs : List (List Value × α)) (n : Nat) (h : ∀ g ∈ gs, g.1.length = n) (l : Nat) : cellsOf (gs.take l) = (cellsOf gs).take (l * n) := by
  induction l generalizing gs with
  | zero => simp [cellsOf]
  | succ l ih =>
    cases gs with
    | nil => simp [cellsOf]
    | cons g gs =>
      have h0 := h g (by simp)
      have hc : ∀ gs, cellsOf (g :: gs) = g.1 ++ cellsOf gs := fun gs => by simp [cellsOf]
      rw [List.take_succ_cons, hc, hc, ih gs (fun g hg => h g (by simp [hg])), show (l + 1) * n = g.1.length + l * n from by rw [h0, Nat.add_mul]; omega, List.take_length_add_append]

/-- x[l:h] -/
theorem RdS.cut {α : Type} {r : Rdr α} {w : World} {S : Nat → Prop} {cap n : Nat} {ad : Option Addr} {xs : List α} (h : RdS r w S (.slice ad n cap) xs) (l hi : Nat) (h1 : l ≤ hi) (h2 : hi ≤ xs.length) :
    RdS r w S (.slice (cutAt ad cap l r.size) (hi - l) (cap - l)) ((xs.drop l).take (hi - l)) := by
  obtain ⟨v', gs, e, rfl, h0, hS, hp⟩ := h
  obtain rfl := List.singleton_inj.1 e
  have hlen : ∀ p ∈ gs, p.1.length = r.size := fun p hp' => r.len (hp p hp')
  rw [List.length_map] at h2
  obtain ⟨_, _, e, _⟩ := id h0
  simp only [Value.slice.injEq] at e
  obtain ⟨rfl, rfl, rfl⟩ := e
  have hc := Rd.cut h0 l hi h1 h2
  refine ⟨_, (gs.drop l).take (hi - l), rfl, by rw [List.map_take, List.map_drop], ?_, fun hn k hk => ?_, fun p hp' => hp p (List.mem_of_mem_drop (List.mem_of_mem_take hp'))⟩
  · rw [take_gs _ r.size (fun p hp' => hlen p (List.mem_of_mem_drop hp')), cut_gs _ _ hlen, List.length_take, List.length_drop, Nat.min_eq_left (by omega)]
    exact hc
  · rw [cutAt_block (n' := gs.length) (m' := cap)] at hk
    exact hS (by rw [List.length_take, List.length_drop] at hn; omega) k hk

/-! ### rows of the call's own -/

/-- v is a slice of the call's own (from block base on) that reads as xs; what its elements lead to lies in S -/
def OwnS {α : Type} (r : Rdr α) (t : TypeId) (w : World) (base : Nat) (S : Nat → Prop) (v : Value) (xs : List α) : Prop :=
  ∃ gs : List (List Value × α), xs = gs.map (·.2) ∧ w.ownsRow base t r.size v gs.length (cellsOf gs) ∧ (∀ k, v.ownBlock = some k → ¬ S k) ∧ ∀ p ∈ gs, r.rd w S p.1 p.2

section
variable {α : Type} {r : Rdr α} {t : TypeId} {w w' : World} {base : Nat} {S : Nat → Prop} {v : Value} {xs : List α}

theorem OwnS.nil (r : Rdr α) (t : TypeId) (w : World) (base : Nat) (S : Nat → Prop) : OwnS r t w base S (.slice none 0 0) [] := ⟨[], rfl, World.ownsRow_nil _ _ _ _, by simp [Value.ownBlock], by simp⟩
theorem OwnS.rd (h : OwnS r t w base S v xs) : RdS r w (fun k => S k ∨ v.ownBlock = some k) v xs := by
  obtain ⟨gs, rfl, h1, h2, h3⟩ := h
  exact ⟨v, gs, rfl, rfl, rd_of_own h1, fun _ k hk => .inr hk, fun p hp => Rdr.mono (h3 p hp) fun k h _ => .inl h⟩
theorem OwnS.rdT (h : OwnS r t w base S v xs) : RdS r w (fun _ => True) v xs := h.rd.mono fun _ _ _ => trivial
theorem OwnS.slice (h : OwnS r t w base S v xs) : ∃ a c, v = .slice a xs.length c := by obtain ⟨a, c, e, _⟩ := h.rd.slice; exact ⟨a, c, e⟩
theorem OwnS.lt (h : OwnS r t w base S v xs) (k : Nat) (hk : v.ownBlock = some k) : base ≤ k ∧ k < w.heap.size := by
  obtain ⟨gs, rfl, h1, h2, h3⟩ := h; exact h1.lt k hk
theorem OwnS.kept (h : OwnS r t w base S v xs) (hk : Keep (fun k => S k ∨ v.ownBlock = some k) w w') : OwnS r t w' base S v xs := by
  obtain ⟨gs, rfl, h1, h2, h3⟩ := h
  exact ⟨gs, rfl, own_kept h1 fun k hb => hk.block k (.inr hb) (h1.lt k hb).2, h2, fun p hp => Rdr.kept (h3 p hp) (hk.mono fun k hS _ => .inl hS)⟩
theorem OwnS.ext (h : OwnS r t w base S v xs) (hk : Ext w w') : OwnS r t w' base S v xs := h.kept (hk.keep _)
theorem OwnS.widen {S' : Nat → Prop} (h : OwnS r t w base S v xs) (hs : ∀ k, S k → k < w.heap.size → S' k) (hb : ∀ k, v.ownBlock = some k → ¬ S' k) : OwnS r t w base S' v xs := by
  obtain ⟨gs, rfl, h1, h2, h3⟩ := h
  exact ⟨gs, rfl, h1, hb, fun p hp => Rdr.mono (h3 p hp) hs⟩
theorem OwnS.low {base' : Nat} (h : OwnS r t w base S v xs) (hb : base' ≤ base) : OwnS r t w base' S v xs := by
  obtain ⟨gs, rfl, h1, h2, h3⟩ := h; exact ⟨gs, rfl, own_base h1 hb, h2, h3⟩
end

/-- append to a row of the call's own, from whatever source that reads -/
theorem wl_appS {α : Type} (r : Rdr α) {w : World} {ops : Array Oper} {rest : List Oper} {o : Oper} {a : Act} {Q : Exit → Act → World → Prop} (hgd : o.guard = none) (s x : Operand) (ts tx t : TypeId) (z : Value) (bytes : Nat)
    (ho : o.op = .call { callee := .builtin .append, args := #[s, x], argTypes := #[ts, tx] }) (hts : Try.prog.underlying ts = some (.slice t)) (hinfo : (Try.prog.info? t).map (fun i => (i.zero, i.size, i.bytes)) = some (some z, r.size, bytes)) (hzs : z.cells.size = r.size) (base : Nat) (S : Nat → Prop)
    (v : Value) (xs : List α) (hs : a.eval s = v) (happ : OwnS r t w base S v xs)
    (y : Value) (gs : List (List Value × α)) (hx : a.eval x = y) (hsrc : Src Try.prog r.size tx y gs.length (cellsOf gs) w) (hgs : ∀ p ∈ gs, r.rd w S p.1 p.2) (hSlt : ∀ k, S k → k < w.heap.size)
    (hbytes : (xs.length + gs.length) * bytes ≤ 140737488355328) (h63 : xs.length + gs.length ≤ 9223372036854775807) (hbase : base ≤ w.heap.size)
    (h : ∀ v' w', OwnS r t w' base S v' (xs ++ gs.map (·.2)) → w.grownBy w' v.ownBlock → (∀ k, v'.ownBlock = some k → v.ownBlock = some k ∨ w.heap.size ≤ k) → wpList Try.prog ops Q rest (a.put o.dst v') w') : wpList Try.prog ops Q (o :: rest) a w := by
  obtain ⟨i0, hi, hz0, hz1, hz2⟩ := info_parts hinfo
  obtain ⟨hs0, rfl, g2, gS, g3⟩ := happ
  rw [List.length_map] at hbytes h63
  refine wpList_plain hgd fun _ hK => wp_append_app s x ts tx ho base t i0 z r.size bytes hts hi hz0 hz1 hz2 hzs v hs0.length (cellsOf hs0) hs (.inl g2) (fun u hu => by obtain ⟨p, hp, hu⟩ := List.mem_flatMap.1 hu; exact r.one (g3 p hp) u hu) y gs.length (cellsOf gs) hx hsrc h63 hbytes hbase ?_
  intro v' w' h1 h2 h3 h4 h5 h6
  refine hK _ _ (h v' w' ⟨hs0 ++ gs, by simp, ?_, fun k hk hSk => ?_, fun p hp => ?_⟩ h4 h6)
  · rw [List.length_append, show cellsOf (hs0 ++ gs) = cellsOf hs0 ++ cellsOf gs from by simp [cellsOf]]
    exact h3 g2
  · rcases h6 k hk with hh | hh
    · exact gS k hh hSk
    · have := hSlt k hSk; omega
  · have all : r.rd w S p.1 p.2 := by
      rcases List.mem_append.1 hp with hp | hp
      · exact g3 p hp
      · exact hgs p hp
    exact r.keep all h4.size (fun k hk hl => h4.block k hl (fun e => gS k e.symm hk)) fun _ h _ => h
end Go.Proofs.Ythobhkmphjnlaaa
