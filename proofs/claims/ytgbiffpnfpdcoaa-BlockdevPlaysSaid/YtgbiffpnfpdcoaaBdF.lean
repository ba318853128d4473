/- blockdev: rows stored into, maps ranged over; Flush. -/
import Derived.Test.YtgbiffpnfpdcoaaBdD
import Derived.Maps.RangeWalk

/- blockdev: a block stored into a row; the map that is ranged over; clear. -/
namespace Go.Proofs.Ytgbiffpnfpdcoaa
open Go.RowKit Go.Maps
set_option linter.unusedVariables false
set_option linter.unusedSimpArgs false

/-! ### a block stored into a row of blocks -/
def setAll (xs : List Value) : Nat → List Value → List Value
  | _, [] => xs
  | o, v :: r => setAll (xs.set o v) (o + 1) r
theorem setAll_len (vs : List Value) : ∀ (o : Nat) (xs : List Value), (setAll xs o vs).length = xs.length := by
  induction vs with
  | nil => intro o xs; rfl
  | cons v r ih => intro o xs; rw [setAll, ih, List.length_set]
theorem setAll_get (vs : List Value) : ∀ (o : Nat) (xs : List Value) (j : Nat), (setAll xs o vs)[j]? = if o ≤ j ∧ j < o + vs.length ∧ j < xs.length then vs[j - o]? else xs[j]? := by
  induction vs with
  | nil => intro o xs j; simp [setAll]; omega
  | cons v r ih =>
    intro o xs j
    rw [setAll, ih, List.length_set, List.getElem?_set]
    by_cases e : j = o
    · subst e
      by_cases hj : j < xs.length
      · simp [hj]; intro h; omega
      · simp [hj]
    · by_cases h3 : o + 1 ≤ j ∧ j < o + 1 + r.length ∧ j < xs.length
      · rw [if_pos h3, if_pos (by simp only [List.length_cons]; omega), show j - o = (j - (o + 1)) + 1 by omega, List.getElem?_cons_succ]
      · rw [if_neg h3, if_neg (by omega), if_neg (by simp only [List.length_cons]; omega)]
theorem own_setCells {base e size n g cap : Nat} (vs : List Value) : ∀ (o : Nat) (w : World) (xs : List Value), w.ownsRow base e size (.slice (some ⟨g, 0, none⟩) n cap) n xs → (w.setCells g o vs).ownsRow base e size (.slice (some ⟨g, 0, none⟩) n cap) n (setAll xs o vs) := by
  induction vs with
  | nil => intro o w xs h; exact h
  | cons v r ih => intro o w xs h; rw [World.setCells, setAll]; exact ih (o + 1) _ _ (World.ownsRow.stored h o v).1
theorem cells_set {α : Type} (gs : List (List Value × α)) (n : Nat) (hn : 0 < n) (h : ∀ p ∈ gs, p.1.length = n) (i : Nat) (hi : i < gs.length) (p : List Value × α) (hp : p.1.length = n) : cellsOf (gs.set i p) = setAll (cellsOf gs) (i * n) p.1 := by
  have h' : ∀ q ∈ gs.set i p, q.1.length = n := fun q hq => by
    rcases List.mem_or_eq_of_mem_set hq with hq | rfl
    · exact h q hq
    · exact hp
  apply List.ext_getElem?
  intro j
  rw [setAll_get, cellsOf_len gs n h, hp]
  have hd : j = (j / n) * n + j % n := by rw [Nat.mul_comm]; exact (Nat.div_add_mod j n).symm
  have hm : j % n < n := Nat.mod_lt _ hn
  by_cases ha : j / n < gs.length
  · have hlt : j < gs.length * n := by
      have : (j / n + 1) * n ≤ gs.length * n := Nat.mul_le_mul_right _ ha
      rw [Nat.add_mul] at this; omega
    have h1 := cellsOf_get (gs.set i p) n h' (j / n) (by simpa using ha) (j % n) hm
    have h2 := cellsOf_get gs n h (j / n) ha (j % n) hm
    rw [← hd] at h1 h2
    rw [h1, h2, List.getElem_set]
    by_cases e : i = j / n
    · subst e
      rw [if_pos rfl, if_pos (by omega), show j - j / n * n = j % n by omega]
    · rw [if_neg e, if_neg]
      intro ⟨c1, c2, _⟩
      have c3 : i ≤ j / n := (Nat.le_div_iff_mul_le hn).2 c1
      have c4 : j / n < i + 1 := (Nat.div_lt_iff_lt_mul hn).2 (by rw [Nat.add_mul]; omega)
      omega
  · have hge : gs.length * n ≤ j := by
      have := Nat.mul_le_mul_right n (Nat.not_lt.1 ha)
      omega
    rw [List.getElem?_eq_none (by rw [cellsOf_len _ n h', List.length_set]; exact hge), if_neg (by omega), List.getElem?_eq_none (by rw [cellsOf_len _ n h]; exact hge)]
theorem keep_setCells {w : World} {g o : Nat} {vs : List Value} : Keep (fun k => k ≠ g) w (w.setCells g o vs) ∧ (w.setCells g o vs).heap.size = w.heap.size := by
  have hs : ∀ (vs : List Value) (o : Nat) (w : World), (w.setCells g o vs).heap.size = w.heap.size ∧ (w.setCells g o vs).tape = w.tape := by
    intro vs
    induction vs with
    | nil => intro o w; exact ⟨rfl, rfl⟩
    | cons v r ih => intro o w; rw [World.setCells]; obtain ⟨h1, h2⟩ := ih (o + 1) (w.setCell ⟨g, o, none⟩ v); exact ⟨h1.trans (by simp), h2.trans rfl⟩
  obtain ⟨h1, h2⟩ := hs vs o w
  exact ⟨⟨World.os_setCells w g o vs, h2, World.output_setCells w g o vs, by omega, fun k hk hl => World.heap_setCells_other w g o vs hl hk⟩, h1⟩
theorem OwnS.setBk {w : World} {base g n cap : Nat} {t : TypeId} {S : Nat → Prop} {xs : List Bk} (h : OwnS rBk t w base S (.slice (some ⟨g, 0, none⟩) n cap) xs) (i : Nat) (hi : i < xs.length) {b : Bk} (hb : b.length = 512) :
    OwnS rBk t (w.setCells g (i * 512) (bvs b)) base S (.slice (some ⟨g, 0, none⟩) n cap) (xs.set i b) ∧ w.there g (i * 512) (bvs b).toArray.size := by
  obtain ⟨gs, rfl, h1, h2, h3⟩ := h
  rw [List.length_map] at hi
  have hlen : ∀ p ∈ gs, p.1.length = 512 := fun p hp => rBk.len (h3 p hp)
  have hnn : n = gs.length := by
    rcases h1.2 with ⟨e, _⟩ | ⟨_, _, _, e, _⟩
    · simp at e
    · simp only [Value.slice.injEq] at e; exact e.2.1
  subst hnn
  refine ⟨⟨gs.set i (bvs b, b), by rw [List.map_set], ?_, h2, fun p hp => ?_⟩, fun j hj => ⟨?_, World.ownsRow.frozenAt h1 _⟩⟩
  · rw [List.length_set, cells_set gs 512 (by omega) hlen i hi _ (by simp [bvs, hb])]
    exact own_setCells _ _ _ _ h1
  · rcases List.mem_or_eq_of_mem_set hp with hp | rfl
    · exact h3 p hp
    · exact ⟨rfl, hb⟩
  · have hj : j < 512 := by simpa [bvs, hb] using hj
    rcases h1.2 with ⟨e, _⟩ | ⟨g', cap', cur, e, -, hg, hnc, hcm, hcs, htake⟩
    · simp at e
    · simp only [Value.slice.injEq, Option.some.injEq, Addr.mk.injEq, and_true, true_and] at e
      obtain ⟨rfl, rfl⟩ := e
      rw [cell_of_row _ _ _ _ _ _ hg]
      have h5 : (i + 1) * 512 ≤ gs.length * 512 := Nat.mul_le_mul_right _ hi
      have h6 : gs.length * 512 ≤ cap * 512 := Nat.mul_le_mul_right _ hnc
      have h7 : cur.size = cap * 512 := hcs
      rw [Array.getElem?_eq_getElem (by omega)]; rfl

theorem step_storeBk {w : World} {ops : Array Oper} {o : Oper} {a : Act} {K : Act → World → Prop} {Q : Exit → Act → World → Prop} {E : Prop} (hgd : o.guard = none) (x y : Operand)
    (ho : o.op = .store 102 x y) (g i : Nat) (b : Bk) (hx : a.eval x = .pointer (some ⟨g, i * 512, none⟩)) (hy : a.eval y = .agg (bvs b).toArray) (hb : b.length = 512) (ht : w.there g (i * 512) (bvs b).toArray.size)
    (h : K (a.put o.dst undef) (w.setCells g (i * 512) (bvs b))) : if Region.wanted o (yielded ops a.tmps) = true then Oper.wp Try.prog o a w K Q else E := by
  have hw : Region.wanted o (yielded ops a.tmps) = true := by simp [Region.wanted, hgd]
  rw [if_pos hw]
  exact wp_store_mid 102 x y ho g (i * 512) (bvs b).toArray hx hy ht (by rw [infoArr]; simp [bvs, hb]) (all_oneCell_toArray (bvs_oneCell b)) h

/-! ### the map, ranged over -/
section
variable {κ : Type} {q : KeyK κ} {w w' : World} {b r n cnt : Nat} {m : κ → Option Value} {left : Lit → Bool}
def MapR (q : KeyK κ) (w : World) (b r n : Nat) (m : κ → Option Value) (left : Lit → Bool) (cnt : Nat) : Prop :=
  ∃ D : DataW Value, w.ranges Try.prog q.t rawE b r n D left cnt ∧ ∀ x, q.ok x → (m x = none ∧ Maps.has D (q.lit x) = false) ∨ ∃ v, m x = some v ∧ Maps.has D (q.lit x) = true ∧ ∀ z, D.atKey (q.lit x) z = .held v
theorem MapR.map (h : MapR q w b r n m left cnt) : MapG q w b n m := by obtain ⟨D, h1, h2⟩ := h; exact ⟨D, h1.owns, h2⟩
theorem MapR.keep (h : MapR q w b r n m left cnt) (hb : w'.heap[b]? = w.heap[b]?) (hr : w'.heap[r]? = w.heap[r]?) : MapR q w' b r n m left cnt := by
  obtain ⟨D, ⟨es, clock, since, seen, c0, hb0, F, hs, hD, hr0, rest⟩, h2⟩ := h
  exact ⟨D, ⟨es, clock, since, seen, c0, hb.trans hb0, F, hs, hD, hr.trans hr0, rest⟩, h2⟩
theorem MapR.lt (h : MapR q w b r n m left cnt) : r < w.heap.size ∧ b < w.heap.size ∧ r ≠ b := by obtain ⟨D, h1, h2⟩ := h; exact ⟨h1.lt, h1.owns.lt, h1.ne⟩
theorem MapR.left_eq (h : MapR q w b r n m left cnt) : w.rangeLeft b r = cnt := by obtain ⟨D, h1, h2⟩ := h; exact h1.left_eq
/-- what is still to come, at the beginning: all -/
def leftAll (q : KeyK κ) (m : κ → Option Value) (left : Lit → Bool) : Prop := ∀ x, q.ok x → left (q.lit x) = (m x).isSome
theorem MapG.range (h : MapG q w b n m) {t e : TypeId} (ht : Try.prog.underlying t = some (.map q.t e)) :
    ∃ w' left cnt, (Instr.range t (.map (some b))).run Try.prog w = .ok (.pointer (some ⟨w.heap.size, 0, none⟩)) w' ∧ MapR q w' b w.heap.size n m left cnt ∧ leftAll q m left ∧ Ext w w' ∧ w'.heap.size = w.heap.size + 1 := by
  obtain ⟨D, h1, h2⟩ := h
  obtain ⟨w', hrun, hr, hg, hs⟩ := h1.range q.law ht
  refine ⟨w', _, _, hrun, ⟨D, hr, h2⟩, fun x hx => ?_, (keep_grown hg).mono (fun _ _ _ => by simp) |>.ext, hs⟩
  rcases h2 x hx with ⟨e1, e2⟩ | ⟨v, e1, e2, _⟩
  · rw [e1, e2]; rfl
  · rw [e1, e2]; rfl
end
/-- the step, at keys of ints -/
theorem MapR.next {w : World} {b r n cnt : Nat} {m : Int → Option Value} {left : Lit → Bool} (h : MapR kInt w b r n m left cnt) (ty : TypeId) :
    (cnt = 0 ∧ (∀ x : Int, left (.int .i64 x) = false) ∧ (Instr.next (.pointer (some ⟨r, 0, none⟩)) false ty).run Try.prog w = .ok (.tuple #[.bool false]) w) ∨
    ∃ x v w' cnt', kInt.ok x ∧ m x = some v ∧ left (.int .i64 x) = true ∧ (Instr.next (.pointer (some ⟨r, 0, none⟩)) false ty).run Try.prog w = .ok (.tuple #[.bool true, .int .i64 x, v]) w' ∧
      MapR kInt w' b r n m (fun z => left z && !z.sameKey (.int .i64 x)) cnt' ∧ cnt' < cnt ∧ Keep (fun k => k ≠ r) w w' ∧ w'.heap.size = w.heap.size ∧ (Instr.entry (.pointer (some ⟨r, 0, none⟩))).run Try.prog w' = .ok (.tuple #[.int .i64 x, v]) w' := by
  obtain ⟨D, h1, h2⟩ := h
  rcases h1.next kInt.law ty with ⟨e1, e2, e3⟩ | ⟨key, v, kl, y, w', cnt', hkey, hl, hy, hat, hrun, hr, hlt, hg, hs, hen⟩
  · exact .inl ⟨e1, fun x => e2 _, e3⟩
  · obtain ⟨x, rfl, rfl, hw⟩ := Maps.keyOf_int_inv Try.underlying3 hkey
    have hx : kInt.ok x := by
      have hw : (decide (IntKind.i64.min ≤ x) && decide (x ≤ IntKind.i64.max)) = true := hw
      rw [Bool.and_eq_true, decide_eq_true_eq, decide_eq_true_eq] at hw
      exact hw
    have hy := rawE_inv hy
    subst hy
    have hv : m x = some v := by
      rcases h2 x hx with ⟨e1, e2⟩ | ⟨u, e1, e2, e3⟩
      · have k1 := hat (.held undef)
        have k2 := atKey_of_not_has e2 (.held undef : DataW Value)
        have k3 := hat (.held (.bool true))
        have k4 := atKey_of_not_has e2 (.held (.bool true) : DataW Value)
        have k1 : D.atKey (kInt.lit x) (.held undef) = .held v := k1
        have k3 : D.atKey (kInt.lit x) (.held (.bool true)) = .held v := k3
        rw [k2] at k1; rw [k4] at k3
        have := (DataW.held.inj k1).trans (DataW.held.inj k3).symm
        simp [undef] at this
      · have k1 : D.atKey (kInt.lit x) (.held undef) = .held v := hat _
        rw [e3] at k1
        rw [e1, DataW.held.inj k1]
    exact .inr ⟨x, v, w', cnt', hx, hv, hl, hrun, ⟨D, hr, h2⟩, hlt, (keep_grown hg).mono (fun k hk _ e => hk (Option.some.inj e)), hs, hen⟩
theorem strike_same (left : Lit → Bool) (x : Int) : (fun z : Lit => left z && !z.sameKey (.int .i64 x)) (.int .i64 x) = false := by simp [Lit.sameKey]
theorem strike_other (left : Lit → Bool) {x y : Int} (h : y ≠ x) : (fun z : Lit => left z && !z.sameKey (.int .i64 x)) (.int .i64 y) = left (.int .i64 y) := by simp [Lit.sameKey, h]

/-- clear(m) -/
theorem MapG.clear {κ : Type} {q : KeyK κ} {w : World} {b n : Nat} {m : κ → Option Value} (h : MapG q w b n m) {t e : TypeId} (ht : Try.prog.underlying t = some (.map q.t e)) (ty : TypeId) :
    ∃ w', (Builtin.clear_ #[t] ty #[.map (some b)]).run Try.prog w = .ok (.tuple #[]) w' ∧ MapG q w' b 0 (fun _ => none) ∧ Keep (fun k => k ≠ b) w w' ∧ w'.heap.size = w.heap.size := by
  obtain ⟨D, ⟨es, clock, hb, F, hs, hD⟩, h2⟩ := h
  refine ⟨ChangeMaps.setBlock w b (.map #[] clock), ?_, ?_, ?_, by simp [ChangeMaps.setBlock]⟩
  · simp [Builtin.clear_, run_underlying ht, MapKept.run_getObj_map hb, MapKept.run_setObj_map _ hb, Result.andThen, ChangeMaps.setBlock]
  · refine ⟨.map [], ⟨#[], clock, ?_, ⟨by simp, MapKept.stamped_empty clock, by simp⟩, Nat.zero_le _, rfl⟩, fun x _ => .inl ⟨rfl, rfl⟩⟩
    have := (Array.getElem?_eq_some_iff.1 hb).1
    simp [ChangeMaps.setBlock, this]
  · refine ⟨rfl, rfl, rfl, by simp [ChangeMaps.setBlock], fun k hk hl => ?_⟩
    simp only [ChangeMaps.setBlock]
    rw [Array.getElem?_setIfInBounds_ne (fun e => hk e.symm)]
end Go.Proofs.Ytgbiffpnfpdcoaa

/- blockdev.Flush, walked. -/
namespace Go.Proofs.Ytgbiffpnfpdcoaa
open Go.RowKit Go.Maps
set_option linter.unusedVariables false
set_option linter.unusedSimpArgs false

theorem wl_next {w : World} {ops : Array Oper} {rest : List Oper} {o : Oper} {a : Act} {Q : Exit → Act → World → Prop} (hgd : o.guard = none) (it : Operand) (hop : o.op = Op.next it false) (r : Nat) (hit : a.eval it = .pointer (some ⟨r, 0, none⟩))
    {b n cnt : Nat} {m : Int → Option Value} {left : Lit → Bool} (h : MapR kInt w b r n m left cnt)
    (hDone : cnt = 0 → (∀ x : Int, left (.int .i64 x) = false) → wpList Try.prog ops Q rest (a.put o.dst (.tuple #[.bool false])) w)
    (hMore : ∀ (x : Int) (v : Value) (w' : World) (cnt' : Nat), kInt.ok x → m x = some v → left (.int .i64 x) = true → MapR kInt w' b r n m (fun z => left z && !z.sameKey (.int .i64 x)) cnt' → cnt' < cnt → Keep (fun k => k ≠ r) w w' → w'.heap.size = w.heap.size →
      (Instr.entry (.pointer (some ⟨r, 0, none⟩))).run Try.prog w' = .ok (.tuple #[.int .i64 x, v]) w' → wpList Try.prog ops Q rest (a.put o.dst (.tuple #[.bool true, .int .i64 x, v])) w') : wpList Try.prog ops Q (o :: rest) a w := by
  refine wpList_plain hgd fun K' hK' => ?_
  unfold Oper.wp
  rcases h.next o.type with ⟨h0, hl, hrun⟩ | ⟨x, v, w', cnt', hx, hv, hl, hrun, hr, hlt, hk, hs, hen⟩
  · simp [execOp, hop, hit, hrun, Result.andThen]
    exact hK' _ _ (hDone h0 hl)
  · simp [execOp, hop, hit, hrun, Result.andThen]
    exact hK' _ _ (hMore x v w' cnt' hx hv hl hr hlt hk hs hen)

/-- what is told by the blocks, while those that 'left' names are still to come -/
def safeL (d : Dv) (left : Lit → Bool) : List Bk := (List.range d.safe.length).map fun (j : Nat) => if left (.int .i64 (j : Int)) = true then d.safe.getD j zb else curF d j
theorem safeL_len (d : Dv) (left : Lit → Bool) : (safeL d left).length = d.safe.length := by simp [safeL]
theorem safeL_start {w : World} {g : Nat} {ρ : Nat → Option DRol} {N : Nat} {d : Dv} {vs : Value} {gm : Nat} {m : Int → Option Value} (h : DvP w g ρ N d vs gm m) {left : Lit → Bool} (hl : leftAll kInt m left) : safeL d left = d.safe := by
  apply List.ext_getElem (safeL_len d left)
  intro j h1 h2
  have hj : kInt.ok (j : Int) := ⟨by omega, by have := h.size.2; omega⟩
  have hl := hl (j : Int) hj
  have e : (kInt.lit (j : Int)) = .int .i64 (j : Int) := rfl
  rw [e] at hl
  simp only [safeL, List.getElem_map, List.getElem_range]
  rw [hl]
  have hd : d.safe.getD j zb = d.safe[j] := by rw [List.getD_eq_getElem?_getD, List.getElem?_eq_getElem h2]; rfl
  cases hm : m (j : Int) with
  | some v => rw [Option.isSome_some, if_pos rfl, hd]
  | none =>
    rw [if_neg (by simp)]
    have hp : d.pend (j : Int) = [] := by
      by_cases hp : d.pend (j : Int) = []
      · exact hp
      · have := (h.has (j : Int) hj).2 hp; rw [hm] at this; cases this
    unfold curF
    rw [hp, List.getLast?_nil, Option.getD_none, Int.toNat_natCast, hd]
theorem safeL_step {d : Dv} {left : Lit → Bool} {x : Nat} (hx : x < d.safe.length) : (safeL d left).set x (curF d x) = safeL d (fun z => left z && !z.sameKey (.int .i64 (x : Int))) := by
  apply List.ext_getElem (by rw [List.length_set, safeL_len, safeL_len])
  intro j h1 h2
  rw [List.getElem_set]
  simp only [safeL, List.getElem_map, List.getElem_range]
  by_cases e : x = j
  · subst e
    rw [if_pos rfl, if_neg (by simp [Lit.sameKey])]
  · rw [if_neg e]
    have := strike_other left (x := (x : Int)) (y := (j : Int)) (by omega)
    simp only at this
    rw [this]
theorem safeL_end {d : Dv} {left : Lit → Bool} (hl : ∀ x : Int, left (.int .i64 x) = false) : safeL d left = (List.range d.safe.length).map fun (j : Nat) => curF d (j : Int) := by
  unfold safeL
  apply List.map_congr_left
  intro j _
  rw [hl, if_neg (by simp)]

theorem DvP.setSafe {w : World} {g : Nat} {ρ : Nat → Option DRol} {N : Nat} {d : Dv} {gs n cap : Nat} {gm : Nat} {m : Int → Option Value} (h : DvP w g ρ N d (.slice (some ⟨gs, 0, none⟩) n cap) gm m) (i : Nat) (hi : i < d.safe.length) {b : Bk} (hb : b.length = 512) :
    DvP (w.setCells gs (i * 512) (bvs b)) g ρ N { d with safe := d.safe.set i b } (.slice (some ⟨gs, 0, none⟩) n cap) gm m ∧ w.there gs (i * 512) (bvs b).toArray.size ∧ Keep (fun k => k ≠ gs) w (w.setCells gs (i * 512) (bvs b)) := by
  obtain ⟨h1, h2⟩ := h.safe.setBk i hi hb
  obtain ⟨k1, k2⟩ := keep_setCells (w := w) (g := gs) (o := i * 512) (vs := bvs b)
  have hgs := h.rsafe gs rfl
  refine ⟨{
    head := by rw [k1.block g (fun e => by have := h.rg; rw [e, hgs] at this; simp at this) h.glt]; exact h.head
    rg := h.rg
    safe := h1
    rsafe := h.rsafe
    map := h.map.kept k1 (fun e => by have := h.rm; rw [e, hgs] at this; simp at this)
    rm := h.rm
    pend := fun t ht => (h.pend t ht).kept (k1.mono fun k hs _ => by
      rcases hs with hs | hs
      · exact hs.elim
      · intro e; have := h.rpend t ht k hs; rw [e, hgs] at this; simp at this)
    rpend := h.rpend
    has := h.has
    rng := fun t ht => by have := h.rng t ht; rw [List.length_set]; exact this
    lt := by rw [k2]; exact h.lt
    size := by rw [List.length_set]; exact h.size
    fuse := h.fuse
    ops := h.ops
    long := h.long }, h2, k1⟩

theorem DvP.cleared {w w' : World} {g : Nat} {ρ : Nat → Option DRol} {N : Nat} {d : Dv} {vs : Value} {gm : Nat} {m : Int → Option Value} (h : DvP w g ρ N d vs gm m) (hm : MapG kInt w' gm 0 (fun _ => none)) (hk : Keep (fun k => k ≠ gm) w w') :
    DvP w' g ρ N { d with pend := fun _ => [] } vs gm (fun _ => none) := {
    head := by rw [hk.block g h.ne h.glt]; exact h.head
    rg := h.rg
    safe := h.safe.kept (hk.mono fun k hs _ => by
      rcases hs with hs | hs
      · exact hs.elim
      · exact (h.nvs k hs).2)
    rsafe := h.rsafe
    map := hm.mono (Nat.zero_le _)
    rm := h.rm
    pend := fun t ht => OwnS.nil _ _ _ _ _
    rpend := fun t ht k hk => by simp [nilS, Value.ownBlock] at hk
    has := fun t ht => by simp
    rng := fun t ht => by simp at ht
    lt := fun k hr => Nat.lt_of_lt_of_le (h.lt k hr) hk.size
    size := h.size
    fuse := h.fuse
    ops := h.ops
    long := fun t => by simp }

def flushF (d : Dv) : Int × Dv := if (opF d 0 0).1 = 0 then (0, { (opF d 0 0).2 with safe := (List.range d.safe.length).map fun (j : Nat) => curF d (j : Int), pend := fun _ => [] }) else opF d 0 0

theorem Flush_nil (w : World) : Calls Try.prog 32 #[.pointer none] w fun e w' => e = .returned (.int .i64 1) ∧ w = w' := by
  go_enter Try.func32, Try.ntmps32
  go_wp2_with fail
  refine (operate_nil _ _ _).mono ?_
  rintro e w1 ⟨rfl, rfl⟩
  go_wp2_with fail
  go_ret
  exact ⟨rfl, rfl⟩

set_option maxRecDepth 100000 in
set_option maxHeartbeats 2000000 in
theorem Flush_any (w : World) (g : Nat) (ρ : Nat → Option DRol) (N : Nat) (d : Dv) (h : DvAt w g ρ N d) (hN : N ≤ 1000000000) :
    Calls Try.prog 32 #[.pointer (some ⟨g, 0, none⟩)] w (WrEnd w g ρ (N + 1) (flushF d)) := by
  have H := hid h
  have hrg : ρ g = some .dev := by obtain ⟨_, _, _, h⟩ := h; exact h.rg
  have HRG := hid hrg
  clear h hrg
  go_enter Try.func32, Try.ntmps32
  go_wp2_with fail
  refine (operate_any w g ρ N d H.out hN 0 0 (by omega) (by omega)).mono ?_
  rintro e w1 ⟨rfl, hd1, hk1⟩
  obtain ⟨hsm1, hsm2⟩ := opF_same d 0 0
  by_cases hx : (opF d 0 0).1 = 0
  · have HFL := hid (show flushF d = (0, { (opF d 0 0).2 with safe := (List.range d.safe.length).map fun (j : Nat) => curF d (j : Int), pend := fun _ => [] }) by unfold flushF; rw [if_pos hx])
    have hcur : ∀ n, curF d n = curF (opF d 0 0).2 n := fun n => by unfold curF; rw [hsm1, hsm2]
    rw [hx]
    generalize (opF d 0 0).2 = d1 at hd1 hsm1 hsm2 HFL hcur
    obtain ⟨vs, gm, m, hp⟩ := hd1
    obtain ⟨gs, sc, e, -⟩ := hp.safe.atBk 0 (by have := hp.size; omega)
    subst e
    obtain ⟨w2, left, cnt, hrun, hmr, hla, hx2, hs2⟩ := hp.map.range Try.underlying90
    have HP := hid hp
    have HP2 := hid (hp.ext hx2)
    have HST := hid (safeL_start hp hla)
    have HMR := hid hmr
    have HX2 := hid hx2
    have HK1 := hid hk1
    have HSM := hid hsm1
    have HEQ := hid (show ((List.range d1.safe.length).map fun (j : Nat) => curF d1 (j : Int)) = (List.range d.safe.length).map fun (j : Nat) => curF d (j : Int) by
      rw [hsm1]
      exact List.map_congr_left fun j _ => (hcur j).symm)
    have c1 := hp.c1
    obtain ⟨r, hr⟩ : ∃ r, r = w1.heap.size := ⟨_, rfl⟩
    rw [← hr] at hrun HMR
    have hgr : g < r := by rw [hr]; exact hp.glt
    have hsr : gs < r := by rw [hr]; exact hp.lt gs (by rw [hp.rsafe gs rfl]; simp)
    have hmrr : gm < r := by rw [hr]; exact hp.map.lt
    have HR := hid hr
    have HRL := hid (fun k (h : ρ k ≠ none) => hp.lt k h)
    have HS2 := hid hs2
    clear hp hmr hla hx2 hk1 hsm1 hsm2 hcur hr hs2 hx
    go_wp2_with fail
    go_loopw [4] (fun _ wr => ∃ left cnt, MapR kInt wr gm r (N + 1) m left cnt ∧ DvP wr g ρ (N + 1) { d1 with safe := safeL d1 left } (.slice (some ⟨gs, 0, none⟩) d1.safe.length sc) gm m ∧ Keep (fun k => ρ k = none ∧ k < r) w1 wr) (fun _ wr => wr.rangeLeft gm r)
    case atStart => exact ⟨left, cnt, HMR.out, by rw [HST.out]; exact HP2.out, HX2.out.keep _⟩
    case round =>
      clear HP HP2 HST HMR c1 hrun HS2 left cnt
      obtain ⟨left, cnt, hmr, hpr, hkr⟩ := hrel
      go_wp2_with (first | (at_next; refine wl_next rfl _ rfl r rfl hmr ?_ ?_) | go_in)
      · intro h0 hl0
        rw [safeL_end hl0] at hpr
        have HPR := hid hpr
        have c1 := hpr.c1
        obtain ⟨w3, hclr, hm3, hk3, hs3⟩ := hmr.map.clear Try.underlying90 0
        have HC3 := hid (hpr.cleared hm3 hk3)
        have HK3 := hid hk3
        have HKR := hid hkr
        have hgm := hpr.rm
        have HGM := hid hgm
        clear hm3 hk3 hkr hpr hgm hmr hs3
        go_wp2_with fail
        go_ret
        refine ⟨by rw [HFL.out]; rfl, ρ, ?_, ?_, fun k h => .inl h⟩
        · rw [HFL.out, ← HEQ.out]
          exact ⟨_, gm, _, HC3.out⟩
        · have k1 : Keep (fun k => ρ k = none ∧ k < r) w w1 := HK1.out.mono fun j hj _ e => by
            have := hj.1
            rw [e, HRG.out] at this
            simp at this
          have k3 : Keep (fun k => ρ k = none ∧ k < r) wr w3 := HK3.out.mono fun j hj _ e => by
            have := hj.1
            rw [e, HGM.out] at this
            simp at this
          exact ((k1.trans HKR.out).trans k3).mono fun j hj hl => ⟨hj, by have := HK1.out.size; have := HR.out; omega⟩
      · intro x v w3 cnt' hxk hmx hlx hmr' hlt hk hs hen
        have hp3 := hpr.keep (hk.mono fun k hk _ e => by have := HRL.out k hk; have := HR.out; omega)
        have hne : d1.pend x ≠ [] := (hpr.has x hxk).1 (by rw [hmx]; rfl)
        obtain ⟨hx0, hx1⟩ := hpr.rng x hne
        have hx1 : x < ((safeL d1 left).length : Int) := hx1
        rw [safeL_len] at hx1
        obtain ⟨xn, rfl⟩ : ∃ xn : Nat, x = xn := ⟨x.toNat, by omega⟩
        have hxn : xn < d1.safe.length := by omega
        obtain ⟨q, hq⟩ : ∃ q, (d1.pend xn).length = q + 1 := ⟨(d1.pend xn).length - 1, by have := List.length_pos_iff.2 hne; omega⟩
        have hpd : OwnS rBk 102 w3 0 (fun _ => False) ((m xn).getD nilS) (d1.pend xn) := hp3.pend xn hxk
        obtain ⟨gl, lc, e, hgl, hlr, hll⟩ := hpd.atBk q (by omega)
        rw [hmx, hq] at e
        simp only [Option.getD_some] at e
        subst e
        have HC := hid (show curF d1 xn = (d1.pend xn)[q] by
          unfold curF
          rw [List.getLast?_eq_getElem?, show (d1.pend xn).length - 1 = q by omega, List.getElem?_eq_getElem (by omega)]; rfl)
        generalize (d1.pend xn)[q] = B at hlr hll HC
        have hq2 : q ≤ 1000000001 := by have : (d1.pend xn).length ≤ N + 1 := hpr.long xn; omega
        obtain ⟨hsz1, hsz2⟩ := hpr.size
        have hsz2 : (safeL d1 left).length ≤ 512 := hsz2
        rw [safeL_len] at hsz2
        have hwq : IntKind.i64.wrap (q : Int) = q := by rw [IntKind.wrap_i64]; omega
        have hqq : (q : Int) < (q : Int) + 1 := by omega
        have c0 := hp3.c0
        have HP3 := hid hp3
        have HKR := hid hkr
        have HMR2 := hid hmr'
        have HMR0 := hid hmr
        have HK := hid hk
        have HLT := hid hlt
        have HBL := hid hll
        clear hp3 hkr hmr' hmr hk hlt hpr hmx hne hpd hq hx0 hx1 hlx hxk hsz1 hs
        go_wp2_with fail
        have hxd : Ext w3 w3.drew := by (· repeat (first | (with_reducible assumption) | exact Ext.refl _ | refine Ext.alloc ?_ _ | refine Ext.drew ?_ | refine Ext.drewN ?_ _ | (apply Ext.snart; (with_reducible assumption))))
        obtain ⟨hp4, hth, hk4⟩ := (HP3.out.ext hxd).setSafe xn (by show _ < (safeL d1 left).length; rw [safeL_len]; exact hxn) HBL.out
        have HP4 := hid hp4
        have HK4 := hid hk4
        have HTH := hid hth
        clear hp4 hk4 hth
        refine wp_region_L (fun w' => w'.cell? ⟨g, 0, none⟩ = some (.slice (some ⟨gs, 0, none⟩) d1.safe.length sc) ∧ w'.rangeAt gl (q * 512) (bvs B)) 12 (by kernel_rfl) ⟨Ext.cellS hxd c0, (World.rangeAt_drew _ _ _ _).2 hlr⟩ (fun hS => ?_)
        (refine wpAnyL_take (i := 0) (v := ?_) rfl (by kernel_rfl) (by kernel_rfl) (by kernel_rfl) (by kernel_rfl) (fun _ _ _ h => h) (Or.inl ⟨by rfl, ?_⟩) (by assumption) ?_; rotate_left; ((intro wS hSw; (try dsimp only at hSw); (try simp only [List.getElem_toArray, List.getElem_cons_zero, List.getElem_cons_succ]); go_simp); (try with_reducible rfl)); (try simp only [Act.put, List.getElem_toArray, List.getElem_cons_zero, List.getElem_cons_succ, List.setIfInBounds_toArray, List.set_cons_zero, List.set_cons_succ]))
        (refine wpAnyL_take (i := 1) (v := ?_) rfl (by kernel_rfl) (by kernel_rfl) (by kernel_rfl) (by kernel_rfl) (fun _ _ _ h => h) (Or.inl ⟨by rfl, ?_⟩) (by assumption) ?_; rotate_left; ((intro wS hSw; (try dsimp only at hSw); (try simp only [List.getElem_toArray, List.getElem_cons_zero, List.getElem_cons_succ]); go_simp); (try with_reducible rfl)); (try simp only [Act.put, List.getElem_toArray, List.getElem_cons_zero, List.getElem_cons_succ, List.setIfInBounds_toArray, List.set_cons_zero, List.set_cons_succ]))
        (refine wpAnyL_take (i := 2) (v := ?_) rfl (by kernel_rfl) (by kernel_rfl) (by kernel_rfl) (by kernel_rfl) (fun _ _ _ h => h) (Or.inl ⟨by rfl, ?_⟩) (by assumption) ?_; rotate_left; ((intro wS hSw; (try dsimp only at hSw); (try simp only [List.getElem_toArray, List.getElem_cons_zero, List.getElem_cons_succ]); go_simp); (try with_reducible rfl)); (try simp only [Act.put, List.getElem_toArray, List.getElem_cons_zero, List.getElem_cons_succ, List.setIfInBounds_toArray, List.set_cons_zero, List.set_cons_succ]))
        (refine wpAnyL_take (i := 3) (v := ?_) rfl (by kernel_rfl) (by kernel_rfl) (by kernel_rfl) (by kernel_rfl) (fun _ _ _ h => h) (Or.inl ⟨by rfl, ?_⟩) (by assumption) ?_; rotate_left; ((intro wS hSw; (try dsimp only at hSw); (try simp only [List.getElem_toArray, List.getElem_cons_zero, List.getElem_cons_succ]); go_simp); (try with_reducible rfl)); (try simp only [Act.put, List.getElem_toArray, List.getElem_cons_zero, List.getElem_cons_succ, List.setIfInBounds_toArray, List.set_cons_zero, List.set_cons_succ]))
        (refine wpAnyL_take (i := 4) (v := ?_) rfl (by kernel_rfl) (by kernel_rfl) (by kernel_rfl) (by kernel_rfl) (fun _ _ _ h => h) (Or.inl ⟨by rfl, ?_⟩) (by assumption) ?_; rotate_left; ((intro wS hSw; (try dsimp only at hSw); (try simp only [List.getElem_toArray, List.getElem_cons_zero, List.getElem_cons_succ]); go_simp); (try with_reducible rfl)); (try simp only [Act.put, List.getElem_toArray, List.getElem_cons_zero, List.getElem_cons_succ, List.setIfInBounds_toArray, List.set_cons_zero, List.set_cons_succ]))
        (refine wpAnyL_take (i := 5) (v := ?_) rfl (by kernel_rfl) (by kernel_rfl) (by kernel_rfl) (by kernel_rfl) (fun _ _ _ h => h) (Or.inl ⟨by rfl, ?_⟩) (by assumption) ?_; rotate_left; ((intro wS hSw; (try dsimp only at hSw); (try simp only [List.getElem_toArray, List.getElem_cons_zero, List.getElem_cons_succ]); go_simp); (try with_reducible rfl)); (try simp only [Act.put, List.getElem_toArray, List.getElem_cons_zero, List.getElem_cons_succ, List.setIfInBounds_toArray, List.set_cons_zero, List.set_cons_succ]))
        (refine wpAnyL_take (i := 6) (v := ?_) rfl (by kernel_rfl) (by kernel_rfl) (by kernel_rfl) (by kernel_rfl) (fun _ _ _ h => h) (Or.inl ⟨by rfl, ?_⟩) (by assumption) ?_; rotate_left; ((intro wS hSw; (try dsimp only at hSw); (try simp only [List.getElem_toArray, List.getElem_cons_zero, List.getElem_cons_succ]); go_simp); (try with_reducible rfl)); (try simp only [Act.put, List.getElem_toArray, List.getElem_cons_zero, List.getElem_cons_succ, List.setIfInBounds_toArray, List.set_cons_zero, List.set_cons_succ]))
        (refine wpAnyL_take (i := 7) (v := ?_) rfl (by kernel_rfl) (by kernel_rfl) (by kernel_rfl) (by kernel_rfl) (fun _ _ _ h => h) (Or.inl ⟨by rfl, ?_⟩) (by assumption) ?_; rotate_left; ((intro wS hSw; (try dsimp only at hSw); (try simp only [List.getElem_toArray, List.getElem_cons_zero, List.getElem_cons_succ]); go_simp); (try with_reducible rfl)); (try simp only [Act.put, List.getElem_toArray, List.getElem_cons_zero, List.getElem_cons_succ, List.setIfInBounds_toArray, List.set_cons_zero, List.set_cons_succ]))
        (refine wpAnyL_take (i := 8) (v := ?_) rfl (by kernel_rfl) (by kernel_rfl) (by kernel_rfl) (by kernel_rfl) (fun _ _ _ h => h) (Or.inl ⟨by rfl, ?_⟩) (by assumption) ?_; rotate_left; ((intro wS hSw; (try dsimp only at hSw); (try simp only [List.getElem_toArray, List.getElem_cons_zero, List.getElem_cons_succ]); go_simp); (try with_reducible rfl)); (try simp only [Act.put, List.getElem_toArray, List.getElem_cons_zero, List.getElem_cons_succ, List.setIfInBounds_toArray, List.set_cons_zero, List.set_cons_succ]))
        (refine wpAnyL_take (i := 9) (v := ?_) rfl (by kernel_rfl) (by kernel_rfl) (by kernel_rfl) (by kernel_rfl) (fun _ _ _ h => h) (Or.inl ⟨by rfl, ?_⟩) (by assumption) ?_; rotate_left; ((intro wS hSw; (try dsimp only at hSw); (try simp only [List.getElem_toArray, List.getElem_cons_zero, List.getElem_cons_succ]); go_simp); (try with_reducible rfl)); (try simp only [Act.put, List.getElem_toArray, List.getElem_cons_zero, List.getElem_cons_succ, List.setIfInBounds_toArray, List.set_cons_zero, List.set_cons_succ]))
        refine wpAnyL_take (i := 10) (v := .agg (bvs B).toArray) rfl (by kernel_rfl) (by kernel_rfl) (by kernel_rfl) (by kernel_rfl) (fun _ _ _ h => h) (yieldsIf_load_mid (by rfl) 102 _ rfl gl (q * 512) rfl (bvs B) _ (fun W hW => hW.2) Try.underlying102 rfl (by rw [infoArr]; simp [bvs, HBL.out])) (by assumption) ?_
        try simp only [Act.put, List.getElem_toArray, List.getElem_cons_zero, List.getElem_cons_succ, List.setIfInBounds_toArray, List.set_cons_zero, List.set_cons_succ]
        (refine wpAnyL_take (i := 11) (v := ?_) rfl (by kernel_rfl) (by kernel_rfl) (by kernel_rfl) (by kernel_rfl) (fun _ _ _ h => h) (Or.inl ⟨by rfl, ?_⟩) (by assumption) ?_; rotate_left; ((intro wS hSw; (try dsimp only at hSw); (try simp only [List.getElem_toArray, List.getElem_cons_zero, List.getElem_cons_succ]); go_simp); (try with_reducible rfl)); (try simp only [Act.put, List.getElem_toArray, List.getElem_cons_zero, List.getElem_cons_succ, List.setIfInBounds_toArray, List.set_cons_zero, List.set_cons_succ]))
        (refine wpAnyL_one (i := 12) (by kernel_rfl) rfl (fun K hK => ?_))
        refine step_storeBk rfl _ _ rfl gs xn B rfl rfl HBL.out HTH.out ?_
        (refine hK.out _ _ (fun h => absurd rfl h) (fun _ => ?_); clear hK K; refine wpAnyL_done (by kernel_rfl) ?_ _)
        refine NoPanic.normal ?_
        go_wp2_with fail
        have hgms : gm ≠ gs := fun e => by have h1 := HP3.out.rm; have h2 := HP3.out.rsafe gs rfl; rw [e, h2] at h1; simp at h1
        have hmr : MapR kInt (w3.drew.setCells gs (xn * 512) (bvs B)) gm r (N + 1) m (fun z => left z && !z.sameKey (.int .i64 (xn : Int))) cnt' :=
          HMR2.out.keep (HK4.out.block gm hgms (by show gm < w3.heap.size; exact HMR2.out.lt.2.1)) (HK4.out.block r (by omega) (by show r < w3.heap.size; exact HMR2.out.lt.1))
        refine ⟨⟨_, ⟨cnt', hmr⟩, ?_, ?_⟩, ?_⟩
        · rw [← safeL_step hxn, HC.out]
          exact HP4.out
        · refine HKR.out.trans (((HK.out.mono (fun k hk _ => by have := hk.2; omega)).trans (hxd.keep _)).trans (HK4.out.mono fun k hk _ e => ?_))
          have h1 := HP3.out.rsafe gs rfl
          have h2 := hk.1
          rw [e, h1] at h2
          simp at h2
        · rw [hmr.left_eq, HMR0.out.left_eq]
          exact HLT.out
  · generalize hX : opF d 0 0 = X at hd1 hx
    have HW := hid (show flushF d = X by unfold flushF; rw [hX, if_neg hx])
    obtain ⟨x1, d1⟩ := X
    dsimp only at hx hd1
    have HD1 := hid hd1
    have HK1 := hid hk1
    clear hd1 hk1 hX hsm1 hsm2
    go_wp2_with fail
    go_ret
    refine ⟨by rw [HW.out]; rfl, ρ, by rw [HW.out]; exact HD1.out, HK1.out.mono fun j hj _ e => ?_, fun k h => .inl h⟩
    rw [e, HRG.out] at hj
    simp at hj
end Go.Proofs.Ytgbiffpnfpdcoaa
