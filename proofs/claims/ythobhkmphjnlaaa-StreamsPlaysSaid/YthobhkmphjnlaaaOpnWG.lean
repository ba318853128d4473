/- How the data that come in are read, with what reach says of their sizes, at whatever depth. -/
import Derived.Test.YthobhkmphjnlaaaOpn
namespace Go.Proofs.Ythobhkmphjnlaaa
open Go.ChangeShapes Go.WideShapes Go.ChangeAt Go.RowKit Go.Deep
set_option linter.unusedVariables false
set_option linter.unusedSimpArgs false

structure OpensW {α : Type} (r : Rdr α) (wk : Nat → α → Prop) (t : TypeId) : Prop where
  cells : Try.prog.cellsOf t = r.size
  op : ∀ {H : Type} {enc : TypeId × Value → H} {W : World} {fuel : Nat} {cs : List Value} {d : DataW H} {ps : List MemPlace},
    DataW.trod enc Try.prog W 0 (fun _ => true) true fuel t cs = some (d, ps) → ∃ x, r.rd W (fun k => k < W.heap.size) cs x ∧ ∀ M, (DataW.weights Try.prog t d).all (· ≤ M) = true → wk M x
theorem opensW_I {t : TypeId} (h : Try.prog.underlying t = some (.int .i64)) (hc : Try.prog.cellsOf t = 1) : OpensW rI (fun _ _ => True) t :=
  ⟨hc, fun ht => by obtain ⟨x, h1, -⟩ := (opens_I h hc).op ht; exact ⟨x, h1, fun _ _ => trivial⟩⟩
theorem opensW_Bo {t : TypeId} (h : Try.prog.underlying t = some .bool) (hc : Try.prog.cellsOf t = 1) : OpensW rBo (fun _ _ => True) t :=
  ⟨hc, fun ht => by obtain ⟨x, h1, -⟩ := (opens_Bo h hc).op ht; exact ⟨x, h1, fun _ _ => trivial⟩⟩
theorem weightsAll_append {H : Type} (P : Program) (e : TypeId) (l : List (DataW H)) (y : DataW H) : DataW.weightsAll P e (l ++ [y]) = DataW.weightsAll P e l ++ y.weights P e := by
  induction l with
  | nil => simp [DataW.weightsAll]
  | cons z zs ih => simp [DataW.weightsAll, ih]

theorem opensW_L {α : Type} {r : Rdr α} {wk : Nat → α → Prop} {t ts : TypeId} (o : OpensW r wk t) (h : Try.prog.underlying ts = some (.slice t)) (hc : Try.prog.cellsOf ts = 1) (hz : 0 < r.size) (nb : Nat) (hnb : Try.prog.bytesOf t = nb) : OpensW (rSl r) (fun M xs => xs.length * nb ≤ M ∧ ∀ x ∈ xs, wk M x) ts := by
  refine ⟨hc, fun {H enc W fuel cs d ps} ht => ?_⟩
  rcases open_slice h ht with ⟨rfl, e⟩ | ⟨a, len, cap, m, n, D, Pl, rfl, _, hl, hm, hmm, hx, hi⟩
  · exact ⟨[], RdS.nil r W _, fun M _ => ⟨by simp, by simp⟩⟩
  · simp only [if_true] at hmm
    subst hmm
    rw [o.cells] at hi
    have each : ∀ i, i < len → ∃ g : List Value × α, r.rd W (fun k => k < W.heap.size) g.1 g.2 ∧ (∀ M, (DataW.weights Try.prog t (D i)).all (· ≤ M) = true → wk M g.2) ∧ ∀ j, j < r.size → W.cell? (a.add (i * r.size + j)) = g.1[j]? := by
      intro i hil
      obtain ⟨cs', hcc, ht'⟩ := hi i (by omega)
      obtain ⟨_, hcl, hat⟩ := World.cells?_some hcc
      obtain ⟨x, h1, h2⟩ := o.op ht'
      refine ⟨(cs', x), h1, h2, fun j hj => ?_⟩
      have := hat j (by omega)
      rw [add_add] at this
      exact this
    obtain ⟨gs, hgl, hgs⟩ := list_of len _ each
    subst hgl
    have hlen : ∀ p ∈ gs, p.1.length = r.size := fun p hp => by
      obtain ⟨i, hi', rfl⟩ := List.getElem_of_mem hp
      exact r.len (hgs i hi').1
    have hblk : 0 < gs.length → ∃ g o, a = ⟨g, o, none⟩ ∧ g < W.heap.size := fun h0 => by
      have hc0 := (hgs 0 h0).2.2 0 hz
      have hl0 := hlen _ (List.getElem_mem h0)
      rw [List.getElem?_eq_getElem (by omega)] at hc0
      obtain ⟨g, o, spot⟩ := a
      have hspot : spot = none := by simpa [Addr.add] using World.cell?_spot hc0
      subst hspot
      refine ⟨g, o, rfl, ?_⟩
      have := World.block_lt_of_cell? _ _ hc0
      simpa [Addr.add] using this
    refine ⟨gs.map (·.2), ⟨_, gs, rfl, rfl, ⟨some a, m, rfl, hl, hm, cellsOf_len gs _ hlen, fun h0 => ?_⟩, fun h0 k hk => ?_, fun p hp => ?_⟩, fun M hM => ?_⟩
    · obtain ⟨g, o, rfl, hg⟩ := hblk h0
      refine ⟨g, o, rfl, hg, fun j hj => ?_⟩
      have hdm := Nat.div_add_mod j r.size
      have hjm := Nat.mod_lt j hz
      have hji : j / r.size < gs.length := Nat.div_lt_of_lt_mul (by rw [Nat.mul_comm]; exact hj)
      have h1 := (hgs _ hji).2.2 (j % r.size) hjm
      have h2 := cellsOf_get gs r.size hlen _ hji _ hjm
      rw [show j / r.size * r.size + j % r.size = j from by rw [Nat.mul_comm]; exact hdm] at h1 h2
      rw [show (⟨g, o, none⟩ : Addr).add j = ⟨g, o + j, none⟩ from by unfold Addr.add; split <;> simp_all] at h1
      rw [h1, h2]
    · obtain ⟨g, o, rfl, hg⟩ := hblk h0
      simp only [Value.ownBlock, Option.map_some, Option.some.injEq] at hk
      omega
    · obtain ⟨i, hi', rfl⟩ := List.getElem_of_mem hp
      exact (hgs i hi').1
    · have e := (Prod.mk.inj hx).1
      subst e
      simp only [DataW.weights, h, List.all_cons, List.all_append, Bool.and_eq_true, decide_eq_true_eq] at hM
      obtain ⟨hM1, hM2, -⟩ := hM
      rw [hnb] at hM1
      simp only [List.length_map, List.length_range] at hM1
      refine ⟨?_, fun x hx => ?_⟩
      · rw [List.length_map]
        exact Nat.le_trans (Nat.mul_le_mul_right _ (by omega)) hM1
      · obtain ⟨p, hp, rfl⟩ := List.mem_map.1 hx
        obtain ⟨i, hi', rfl⟩ := List.getElem_of_mem hp
        refine (hgs i hi').2.1 M ?_
        have key : ∀ (k : Nat), (DataW.weightsAll Try.prog t ((List.range k).map D)).all (· ≤ M) = true → ∀ i, i < k → (DataW.weights Try.prog t (D i)).all (· ≤ M) = true := by
          intro k
          induction k with
          | zero => intro _ i hi; omega
          | succ k ih =>
            intro hk i hi
            rw [List.range_succ, List.map_append, List.map_singleton, weightsAll_append, List.all_append, Bool.and_eq_true] at hk
            by_cases h0 : i = k
            · subst h0; exact hk.2
            · exact ih hk.1 i (by omega)
        exact key _ hM2 i hi'

def OpensFsW {α : Type} (r : Rdr α) (wk : Nat → α → Prop) (fs : List Field) (off : Nat) : Prop :=
  ∀ {H : Type} {enc : TypeId × Value → H} {W : World} {n : Nat} {cs : List Value} {xs : List (DataW H × List MemPlace)}, xs.length = fs.length →
    (∀ (i : Nat) (f : Field), fs[i]? = some f → DataW.trod enc Try.prog W 0 (fun _ => true) true n f.type ((cs.drop f.offset).take (Try.prog.cellsOf f.type)) = xs[i]?) →
    ∃ x, r.rd W (fun k => k < W.heap.size) ((cs.drop off).take r.size) x ∧ ∀ M, (DataW.weightsEach Try.prog (fs.map (·.type)) (xs.map (·.1))).all (· ≤ M) = true → wk M x
theorem opensFsW_one {α : Type} {r : Rdr α} {wk : Nat → α → Prop} {f : Field} {t : TypeId} {off : Nat} (o : OpensW r wk t) (ht : f.type = t) (hoff : f.offset = off) : OpensFsW r wk [f] off := by
  intro H enc W n cs xs hl h
  subst ht hoff
  match xs, hl with
  | [y], _ =>
    have h0 := h 0 f rfl
    rw [o.cells] at h0
    obtain ⟨x, h1, h2⟩ := o.op (d := y.1) (ps := y.2) (by simpa using h0)
    exact ⟨x, h1, fun M hM => h2 M (by simpa [DataW.weightsEach] using hM)⟩
theorem opensFsW_cons {α β : Type} {r : Rdr α} {wk : Nat → α → Prop} {r' : Rdr β} {wk' : Nat → β → Prop} {f : Field} {fs : List Field} {t : TypeId} {off : Nat} (o : OpensW r wk t) (ht : f.type = t) (hoff : f.offset = off) (k : OpensFsW r' wk' fs (off + r.size)) : OpensFsW (rPair r r') (fun M x => wk M x.1 ∧ wk' M x.2) (f :: fs) off := by
  intro H enc W n cs xs hl h
  subst ht hoff
  match xs, hl with
  | y :: ys, hl =>
    have h0 := h 0 f rfl
    rw [o.cells] at h0
    obtain ⟨x, h1, h2⟩ := o.op (d := y.1) (ps := y.2) (by simpa using h0)
    obtain ⟨x', h1', h2'⟩ := k (cs := cs) (xs := ys) (by simpa using hl) fun i g hg => by simpa using h (i + 1) g (by simpa using hg)
    refine ⟨(x, x'), ⟨_, _, ?_, h1, h1'⟩, fun M hM => ?_⟩
    · show (cs.drop f.offset).take (r.size + r'.size) = _
      rw [List.take_add, List.drop_drop]
    · simp only [List.map_cons, DataW.weightsEach, List.all_append, Bool.and_eq_true] at hM
      exact ⟨h2 M hM.1, h2' M hM.2⟩
theorem opensW_St {α : Type} {r : Rdr α} {wk : Nat → α → Prop} {t : TypeId} {fs : Array Field} (h : Try.prog.underlying t = some (.struct fs)) (hc : Try.prog.cellsOf t = r.size) (k : OpensFsW r wk fs.toList 0) : OpensW r wk t := by
  refine ⟨hc, fun {H enc W fuel cs d ps} ht => ?_⟩
  obtain ⟨xs, n, _, e, hl, hlen, hf⟩ := DataW.trod_struct h ht
  obtain ⟨x, h1, h2⟩ := k (cs := cs) (xs := xs) (by simpa using hlen) fun i f hif => hf i f (by simpa using hif)
  rw [List.drop_zero, List.take_of_length_le (by omega)] at h1
  refine ⟨x, h1, fun M hM => ?_⟩
  have := (Prod.mk.inj e).1
  subst this
  simp only [DataW.weights, h] at hM
  exact h2 M hM
theorem weights_at {H : Type} {P : Program} {ts : List TypeId} {ds : List (DataW H)} (h : (DataW.weightsEach P ts ds).all (· ≤ reachBytes) = true) {j : Nat} {t : TypeId} {d : DataW H} (ht : ts[j]? = some t) (hd : ds[j]? = some d) : (DataW.weights P t d).all (· ≤ reachBytes) = true :=
  List.all_eq_true.2 fun n hn => List.all_eq_true.1 h n (DataW.weights_mem_each ht hd n hn)

theorem opensW_S {t : TypeId} (h : Try.prog.underlying t = some .string) (hc : Try.prog.cellsOf t = 1) : OpensW rS (fun _ _ => True) t :=
  ⟨hc, fun ht => by obtain ⟨x, h1, -⟩ := (opens_S h hc).op ht; exact ⟨x, h1, fun _ _ => trivial⟩⟩
theorem OpensW.mono {α : Type} {r : Rdr α} {wk wk' : Nat → α → Prop} {t : TypeId} (o : OpensW r wk t) (h : ∀ M x, wk M x → wk' M x) : OpensW r wk' t :=
  ⟨o.cells, fun ht => by obtain ⟨x, h1, h2⟩ := o.op ht; exact ⟨x, h1, fun M hM => h M x (h2 M hM)⟩⟩
end Go.Proofs.Ythobhkmphjnlaaa
