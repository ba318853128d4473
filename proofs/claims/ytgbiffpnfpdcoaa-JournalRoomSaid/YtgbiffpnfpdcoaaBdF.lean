/- blockdev: a block stored into a row; the map that is ranged over; clear. -/
import Derived.Test.YtgbiffpnfpdcoaaBdE
import Derived.Maps.RangeWalk
namespace Go.Proofs.Ytgbiffpnfpdcoaa
open Go.RowKit Go.Maps
set_option linter.unusedVariables false
set_option linter.unusedSimpArgs false

/-! ### a block stored into a row of blocks -/
def setAll (xs : List Value) : Nat → List Value → List Value
  | _, [] => xs
  | o, v :: r => setAll (xs.set o v) (o + 1) r
theorem setAll_len (vs : List Value) : ∀ (o : Nat) (xs : List Value), (setAll xs o vs).length = xs.length := by
  induction vs with
  | nil => intro o xs; rfl
  | cons v r ih => intro o xs; rw [setAll, ih, List.length_set]
theorem setAll_get (vs : List Value) : ∀ (o : Nat) (xs : List Value) (j : Nat), (setAll xs o vs)[j]? = if o ≤ j ∧ j < o + vs.length ∧ j < xs.length then vs[j - o]? else xs[j]? := by
  induction vs with
  | nil => intro o xs j; simp [setAll]; omega
  | cons v r ih =>
    intro o xs j
    rw [setAll, ih, List.length_set, List.getElem?_set]
    by_cases e : j = o
    · subst e
      by_cases hj : j < xs.length
      · simp [hj]; intro h; omega
      · simp [hj]
    · by_cases h3 : o + 1 ≤ j ∧ j < o + 1 + r.length ∧ j < xs.length
      · rw [if_pos h3, if_pos (by simp only [List.length_cons]; omega), show j - o = (j - (o + 1)) + 1 by omega, List.getElem?_cons_succ]
      · rw [if_neg h3, if_neg (by omega), if_neg (by simp only [List.length_cons]; omega)]
theorem own_setCells {base e size n g cap : Nat} (vs : List Value) : ∀ (o : Nat) (w : World) (xs : List Value), w.ownsRow base e size (.slice (some ⟨g, 0, none⟩) n cap) n xs → (w.setCells g o vs).ownsRow base e size (.slice (some ⟨g, 0, none⟩) n cap) n (setAll xs o vs) := by
  induction vs with
  | nil => intro o w xs h; exact h
  | cons v r ih => intro o w xs h; rw [World.setCells, setAll]; exact ih (o + 1) _ _ (World.ownsRow.stored h o v).1
theorem cells_set {α : Type} (gs : List (List Value × α)) (n : Nat) (hn : 0 < n) (h : ∀ p ∈ gs, p.1.length = n) (i : Nat) (hi : i < gs.length) (p : List Value × α) (hp : p.1.length = n) : cellsOf (gs.set i p) = setAll (cellsOf gs) (i * n) p.1 := by
  have h' : ∀ q ∈ gs.set i p, q.1.length = n := fun q hq => by
    rcases List.mem_or_eq_of_mem_set hq with hq | rfl
    · exact h q hq
    · exact hp
  apply List.ext_getElem?
  intro j
  rw [setAll_get, cellsOf_len gs n h, hp]
  have hd : j = (j / n) * n + j % n := by rw [Nat.mul_comm]; exact (Nat.div_add_mod j n).symm
  have hm : j % n < n := Nat.mod_lt _ hn
  by_cases ha : j / n < gs.length
  · have hlt : j < gs.length * n := by
      have : (j / n + 1) * n ≤ gs.length * n := Nat.mul_le_mul_right _ ha
      rw [Nat.add_mul] at this; omega
    have h1 := cellsOf_get (gs.set i p) n h' (j / n) (by simpa using ha) (j % n) hm
    have h2 := cellsOf_get gs n h (j / n) ha (j % n) hm
    rw [← hd] at h1 h2
    rw [h1, h2, List.getElem_set]
    by_cases e : i = j / n
    · subst e
      rw [if_pos rfl, if_pos (by omega), show j - j / n * n = j % n by omega]
    · rw [if_neg e, if_neg]
      intro ⟨c1, c2, _⟩
      have c3 : i ≤ j / n := (Nat.le_div_iff_mul_le hn).2 c1
      have c4 : j / n < i + 1 := (Nat.div_lt_iff_lt_mul hn).2 (by rw [Nat.add_mul]; omega)
      omega
  · have hge : gs.length * n ≤ j := by
      have := Nat.mul_le_mul_right n (Nat.not_lt.1 ha)
      omega
    rw [List.getElem?_eq_none (by rw [cellsOf_len _ n h', List.length_set]; exact hge), if_neg (by omega), List.getElem?_eq_none (by rw [cellsOf_len _ n h]; exact hge)]
theorem keep_setCells {w : World} {g o : Nat} {vs : List Value} : Keep (fun k => k ≠ g) w (w.setCells g o vs) ∧ (w.setCells g o vs).heap.size = w.heap.size := by
  have hs : ∀ (vs : List Value) (o : Nat) (w : World), (w.setCells g o vs).heap.size = w.heap.size ∧ (w.setCells g o vs).tape = w.tape := by
    intro vs
    induction vs with
    | nil => intro o w; exact ⟨rfl, rfl⟩
    | cons v r ih => intro o w; rw [World.setCells]; obtain ⟨h1, h2⟩ := ih (o + 1) (w.setCell ⟨g, o, none⟩ v); exact ⟨h1.trans (by simp), h2.trans rfl⟩
  obtain ⟨h1, h2⟩ := hs vs o w
  exact ⟨⟨World.os_setCells w g o vs, h2, World.output_setCells w g o vs, by omega, fun k hk hl => World.heap_setCells_other w g o vs hl hk⟩, h1⟩
theorem OwnS.setBk {w : World} {base g n cap : Nat} {t : TypeId} {S : Nat → Prop} {xs : List Bk} (h : OwnS rBk t w base S (.slice (some ⟨g, 0, none⟩) n cap) xs) (i : Nat) (hi : i < xs.length) {b : Bk} (hb : b.length = 512) :
    OwnS rBk t (w.setCells g (i * 512) (bvs b)) base S (.slice (some ⟨g, 0, none⟩) n cap) (xs.set i b) ∧ w.there g (i * 512) (bvs b).toArray.size := by
  obtain ⟨gs, rfl, h1, h2, h3⟩ := h
  rw [List.length_map] at hi
  have hlen : ∀ p ∈ gs, p.1.length = 512 := fun p hp => rBk.len (h3 p hp)
  have hnn : n = gs.length := by
    rcases h1.2 with ⟨e, _⟩ | ⟨_, _, _, e, _⟩
    · simp at e
    · simp only [Value.slice.injEq] at e; exact e.2.1
  subst hnn
  refine ⟨⟨gs.set i (bvs b, b), by rw [List.map_set], ?_, h2, fun p hp => ?_⟩, fun j hj => ⟨?_, World.ownsRow.frozenAt h1 _⟩⟩
  · rw [List.length_set, cells_set gs 512 (by omega) hlen i hi _ (by simp [bvs, hb])]
    exact own_setCells _ _ _ _ h1
  · rcases List.mem_or_eq_of_mem_set hp with hp | rfl
    · exact h3 p hp
    · exact ⟨rfl, hb⟩
  · have hj : j < 512 := by simpa [bvs, hb] using hj
    rcases h1.2 with ⟨e, _⟩ | ⟨g', cap', cur, e, -, hg, hnc, hcm, hcs, htake⟩
    · simp at e
    · simp only [Value.slice.injEq, Option.some.injEq, Addr.mk.injEq, and_true, true_and] at e
      obtain ⟨rfl, rfl⟩ := e
      rw [cell_of_row _ _ _ _ _ _ hg]
      have h5 : (i + 1) * 512 ≤ gs.length * 512 := Nat.mul_le_mul_right _ hi
      have h6 : gs.length * 512 ≤ cap * 512 := Nat.mul_le_mul_right _ hnc
      have h7 : cur.size = cap * 512 := hcs
      rw [Array.getElem?_eq_getElem (by omega)]; rfl

theorem step_storeBk {w : World} {ops : Array Oper} {o : Oper} {a : Act} {K : Act → World → Prop} {Q : Exit → Act → World → Prop} {E : Prop} (hgd : o.guard = none) (x y : Operand)
    (ho : o.op = .store 102 x y) (g i : Nat) (b : Bk) (hx : a.eval x = .pointer (some ⟨g, i * 512, none⟩)) (hy : a.eval y = .agg (bvs b).toArray) (hb : b.length = 512) (ht : w.there g (i * 512) (bvs b).toArray.size)
    (h : K (a.put o.dst undef) (w.setCells g (i * 512) (bvs b))) : if Region.wanted o (yielded ops a.tmps) = true then Oper.wp Try.prog o a w K Q else E := by
  have hw : Region.wanted o (yielded ops a.tmps) = true := by simp [Region.wanted, hgd]
  rw [if_pos hw]
  exact wp_store_mid 102 x y ho g (i * 512) (bvs b).toArray hx hy ht (by rw [infoArr]; simp [bvs, hb]) (all_oneCell_toArray (bvs_oneCell b)) h

/-! ### the map, ranged over -/
section
variable {κ : Type} {q : KeyK κ} {w w' : World} {b r n cnt : Nat} {m : κ → Option Value} {left : Lit → Bool}
def MapR (q : KeyK κ) (w : World) (b r n : Nat) (m : κ → Option Value) (left : Lit → Bool) (cnt : Nat) : Prop :=
  ∃ D : DataW Value, w.ranges Try.prog q.t rawE b r n D left cnt ∧ ∀ x, q.ok x → (m x = none ∧ Maps.has D (q.lit x) = false) ∨ ∃ v, m x = some v ∧ Maps.has D (q.lit x) = true ∧ ∀ z, D.atKey (q.lit x) z = .held v
theorem MapR.map (h : MapR q w b r n m left cnt) : MapG q w b n m := by obtain ⟨D, h1, h2⟩ := h; exact ⟨D, h1.owns, h2⟩
theorem MapR.keep (h : MapR q w b r n m left cnt) (hb : w'.heap[b]? = w.heap[b]?) (hr : w'.heap[r]? = w.heap[r]?) : MapR q w' b r n m left cnt := by
  obtain ⟨D, ⟨es, clock, since, seen, c0, hb0, F, hs, hD, hr0, rest⟩, h2⟩ := h
  exact ⟨D, ⟨es, clock, since, seen, c0, hb.trans hb0, F, hs, hD, hr.trans hr0, rest⟩, h2⟩
theorem MapR.lt (h : MapR q w b r n m left cnt) : r < w.heap.size ∧ b < w.heap.size ∧ r ≠ b := by obtain ⟨D, h1, h2⟩ := h; exact ⟨h1.lt, h1.owns.lt, h1.ne⟩
theorem MapR.left_eq (h : MapR q w b r n m left cnt) : w.rangeLeft b r = cnt := by obtain ⟨D, h1, h2⟩ := h; exact h1.left_eq
/-- what is still to come, at the beginning: all -/
def leftAll (q : KeyK κ) (m : κ → Option Value) (left : Lit → Bool) : Prop := ∀ x, q.ok x → left (q.lit x) = (m x).isSome
theorem MapG.range (h : MapG q w b n m) {t e : TypeId} (ht : Try.prog.underlying t = some (.map q.t e)) :
    ∃ w' left cnt, (Instr.range t (.map (some b))).run Try.prog w = .ok (.pointer (some ⟨w.heap.size, 0, none⟩)) w' ∧ MapR q w' b w.heap.size n m left cnt ∧ leftAll q m left ∧ Ext w w' ∧ w'.heap.size = w.heap.size + 1 := by
  obtain ⟨D, h1, h2⟩ := h
  obtain ⟨w', hrun, hr, hg, hs⟩ := h1.range q.law ht
  refine ⟨w', _, _, hrun, ⟨D, hr, h2⟩, fun x hx => ?_, (keep_grown hg).mono (fun _ _ _ => by simp) |>.ext, hs⟩
  rcases h2 x hx with ⟨e1, e2⟩ | ⟨v, e1, e2, _⟩
  · rw [e1, e2]; rfl
  · rw [e1, e2]; rfl
end
/-- the step, at keys of ints -/
theorem MapR.next {w : World} {b r n cnt : Nat} {m : Int → Option Value} {left : Lit → Bool} (h : MapR kInt w b r n m left cnt) (ty : TypeId) :
    (cnt = 0 ∧ (∀ x : Int, left (.int .i64 x) = false) ∧ (Instr.next (.pointer (some ⟨r, 0, none⟩)) false ty).run Try.prog w = .ok (.tuple #[.bool false]) w) ∨
    ∃ x v w' cnt', kInt.ok x ∧ m x = some v ∧ left (.int .i64 x) = true ∧ (Instr.next (.pointer (some ⟨r, 0, none⟩)) false ty).run Try.prog w = .ok (.tuple #[.bool true, .int .i64 x, v]) w' ∧
      MapR kInt w' b r n m (fun z => left z && !z.sameKey (.int .i64 x)) cnt' ∧ cnt' < cnt ∧ Keep (fun k => k ≠ r) w w' ∧ w'.heap.size = w.heap.size ∧ (Instr.entry (.pointer (some ⟨r, 0, none⟩))).run Try.prog w' = .ok (.tuple #[.int .i64 x, v]) w' := by
  obtain ⟨D, h1, h2⟩ := h
  rcases h1.next kInt.law ty with ⟨e1, e2, e3⟩ | ⟨key, v, kl, y, w', cnt', hkey, hl, hy, hat, hrun, hr, hlt, hg, hs, hen⟩
  · exact .inl ⟨e1, fun x => e2 _, e3⟩
  · obtain ⟨x, rfl, rfl, hw⟩ := Maps.keyOf_int_inv Try.underlying3 hkey
    have hx : kInt.ok x := by
      have hw : (decide (IntKind.i64.min ≤ x) && decide (x ≤ IntKind.i64.max)) = true := hw
      rw [Bool.and_eq_true, decide_eq_true_eq, decide_eq_true_eq] at hw
      exact hw
    have hy := rawE_inv hy
    subst hy
    have hv : m x = some v := by
      rcases h2 x hx with ⟨e1, e2⟩ | ⟨u, e1, e2, e3⟩
      · have k1 := hat (.held undef)
        have k2 := atKey_of_not_has e2 (.held undef : DataW Value)
        have k3 := hat (.held (.bool true))
        have k4 := atKey_of_not_has e2 (.held (.bool true) : DataW Value)
        have k1 : D.atKey (kInt.lit x) (.held undef) = .held v := k1
        have k3 : D.atKey (kInt.lit x) (.held (.bool true)) = .held v := k3
        rw [k2] at k1; rw [k4] at k3
        have := (DataW.held.inj k1).trans (DataW.held.inj k3).symm
        simp [undef] at this
      · have k1 : D.atKey (kInt.lit x) (.held undef) = .held v := hat _
        rw [e3] at k1
        rw [e1, DataW.held.inj k1]
    exact .inr ⟨x, v, w', cnt', hx, hv, hl, hrun, ⟨D, hr, h2⟩, hlt, (keep_grown hg).mono (fun k hk _ e => hk (Option.some.inj e)), hs, hen⟩
theorem strike_same (left : Lit → Bool) (x : Int) : (fun z : Lit => left z && !z.sameKey (.int .i64 x)) (.int .i64 x) = false := by simp [Lit.sameKey]
theorem strike_other (left : Lit → Bool) {x y : Int} (h : y ≠ x) : (fun z : Lit => left z && !z.sameKey (.int .i64 x)) (.int .i64 y) = left (.int .i64 y) := by simp [Lit.sameKey, h]

/-- clear(m) -/
theorem MapG.clear {κ : Type} {q : KeyK κ} {w : World} {b n : Nat} {m : κ → Option Value} (h : MapG q w b n m) {t e : TypeId} (ht : Try.prog.underlying t = some (.map q.t e)) (ty : TypeId) :
    ∃ w', (Builtin.clear_ #[t] ty #[.map (some b)]).run Try.prog w = .ok (.tuple #[]) w' ∧ MapG q w' b 0 (fun _ => none) ∧ Keep (fun k => k ≠ b) w w' ∧ w'.heap.size = w.heap.size := by
  obtain ⟨D, ⟨es, clock, hb, F, hs, hD⟩, h2⟩ := h
  refine ⟨ChangeMaps.setBlock w b (.map #[] clock), ?_, ?_, ?_, by simp [ChangeMaps.setBlock]⟩
  · simp [Builtin.clear_, run_underlying ht, MapKept.run_getObj_map hb, MapKept.run_setObj_map _ hb, Result.andThen, ChangeMaps.setBlock]
  · refine ⟨.map [], ⟨#[], clock, ?_, ⟨by simp, MapKept.stamped_empty clock, by simp⟩, Nat.zero_le _, rfl⟩, fun x _ => .inl ⟨rfl, rfl⟩⟩
    have := (Array.getElem?_eq_some_iff.1 hb).1
    simp [ChangeMaps.setBlock, this]
  · refine ⟨rfl, rfl, rfl, by simp [ChangeMaps.setBlock], fun k hk hl => ?_⟩
    simp only [ChangeMaps.setBlock]
    rw [Array.getElem?_setIfInBounds_ne (fun e => hk e.symm)]
end Go.Proofs.Ytgbiffpnfpdcoaa
