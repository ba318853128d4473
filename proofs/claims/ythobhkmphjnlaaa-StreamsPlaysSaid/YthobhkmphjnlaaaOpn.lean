/- How the data that come in are read, by shape: slices, texts, numbers, structs, of whatever depth; and what the bound of the second form gives. -/
import Derived.Test.YthobhkmphjnlaaaRows
import Derived.Test.YthobhkmphjnlaaaOpnA
import Derived.Test.YthobhkmphjnlaaaRdr
namespace Go.Proofs.Ythobhkmphjnlaaa
open Go.ChangeShapes Go.WideShapes Go.ChangeAt Go.RowKit Go.Deep
set_option linter.unusedVariables false
set_option linter.unusedSimpArgs false

structure Opens {α : Type} (r : Rdr α) (b : α → Nat) (t : TypeId) : Prop where
  cells : Try.prog.cellsOf t = r.size
  op : ∀ {H : Type} {enc : TypeId × Value → H} {W : World} {fuel : Nat} {cs : List Value} {d : DataW H} {ps : List MemPlace},
    DataW.trod enc Try.prog W 0 (fun _ => true) true fuel t cs = some (d, ps) → ∃ x, r.rd W (fun k => k < W.heap.size) cs x ∧ b x ≤ Rows.uptoBulk d

def bOne {α : Type} (_ : α) : Nat := 1
def bS (s : ByteArray) : Nat := s.size + 1
def bBs (l : List UInt8) : Nat := l.length + 1
def bL {α : Type} (b : α → Nat) (xs : List α) : Nat := (xs.map b).sum + 1
def bP {α β : Type} (a : α → Nat) (b : β → Nat) (x : α × β) : Nat := a x.1 + b x.2
def bSt {α : Type} (b : α → Nat) (x : α) : Nat := b x + 1

theorem bL_mem {α : Type} {b : α → Nat} {xs : List α} {x : α} (h : x ∈ xs) : b x < bL b xs := by
  unfold bL
  induction xs with
  | nil => simp at h
  | cons y ys ih =>
    simp only [List.map_cons, List.sum_cons]
    rcases List.mem_cons.1 h with rfl | h
    · omega
    · have := ih h; omega
theorem bL_len {α : Type} {b : α → Nat} (hb : ∀ x, 1 ≤ b x) (xs : List α) : xs.length < bL b xs := by
  unfold bL
  induction xs with
  | nil => simp
  | cons y ys ih =>
    have := hb y
    simp only [List.map_cons, List.sum_cons, List.length_cons]; omega

theorem opens_I {t : TypeId} (h : Try.prog.underlying t = some (.int .i64)) (hc : Try.prog.cellsOf t = 1) : Opens rI bOne t := by
  refine ⟨hc, fun ht => ?_⟩
  obtain ⟨n, rfl, e, hw⟩ := DataW.trod_int h ht
  exact ⟨n, ⟨rfl, wf_i64 hw⟩, bulk_one _⟩
theorem opens_Bo {t : TypeId} (h : Try.prog.underlying t = some .bool) (hc : Try.prog.cellsOf t = 1) : Opens rBo bOne t := by
  refine ⟨hc, fun ht => ?_⟩
  obtain ⟨n, rfl, e⟩ := DataW.trod_bool h ht
  exact ⟨n, rfl, bulk_one _⟩
theorem opens_S {t : TypeId} (h : Try.prog.underlying t = some .string) (hc : Try.prog.cellsOf t = 1) : Opens rS bS t := by
  refine ⟨hc, fun ht => ?_⟩
  obtain ⟨s, rfl, e, hw⟩ := DataW.trod_string h ht
  refine ⟨s, ⟨rfl, by unfold maxLen at hw; omega⟩, ?_⟩
  have := (Prod.mk.inj e).1
  subst this
  simp only [Rows.uptoBulk, bS]
  rw [Array.length_toList]
  exact Nat.le_refl _
theorem opens_Bs : Opens rBs bBs 54 := by
  refine ⟨cellsBs, fun {H enc W fuel cs d ps} ht => ?_⟩
  have h1 : ∃ v, cs = [v] := by
    rcases DataW.trod_slice Try.underlying54 ht with ⟨rfl, _⟩ | ⟨a, len, cap, _, _, _, _, rfl, _⟩
    · exact ⟨_, rfl⟩
    · exact ⟨_, rfl⟩
  obtain ⟨v, rfl⟩ := h1
  obtain ⟨l, h1, h2⟩ := read_B ht
  refine ⟨l, ⟨v, rfl, h1, fun hn k hk => Rd.block_lt h1 hn k hk⟩, ?_⟩
  rcases h2 with rfl | ⟨el, sp, rfl, he⟩
  · exact bulk_one _
  · have := bulk_len el
    simp only [Rows.uptoBulk, bBs]; omega

theorem opens_L {α : Type} {r : Rdr α} {b : α → Nat} {t ts : TypeId} (o : Opens r b t) (h : Try.prog.underlying ts = some (.slice t)) (hc : Try.prog.cellsOf ts = 1) (hz : 0 < r.size) : Opens (rSl r) (bL b) ts := by
  refine ⟨hc, fun {H enc W fuel cs d ps} ht => ?_⟩
  rcases open_slice h ht with ⟨rfl, e⟩ | ⟨a, len, cap, m, n, D, Pl, rfl, _, hl, hm, hmm, hx, hi⟩
  · exact ⟨[], RdS.nil r W _, by simp [bL]; exact bulk_one _⟩
  · simp only [if_true] at hmm
    subst hmm
    rw [o.cells] at hi
    have each : ∀ i, i < len → ∃ g : List Value × α, r.rd W (fun k => k < W.heap.size) g.1 g.2 ∧ b g.2 ≤ Rows.uptoBulk (D i) ∧ ∀ j, j < r.size → W.cell? (a.add (i * r.size + j)) = g.1[j]? := by
      intro i hil
      obtain ⟨cs', hcc, ht'⟩ := hi i (by omega)
      obtain ⟨_, hcl, hat⟩ := World.cells?_some hcc
      obtain ⟨x, h1, h2⟩ := o.op ht'
      refine ⟨(cs', x), h1, h2, fun j hj => ?_⟩
      have := hat j (by omega)
      rw [add_add] at this
      exact this
    obtain ⟨gs, hgl, hgs⟩ := list_of len _ each
    subst hgl
    have hlen : ∀ p ∈ gs, p.1.length = r.size := fun p hp => by
      obtain ⟨i, hi', rfl⟩ := List.getElem_of_mem hp
      exact r.len (hgs i hi').1
    have hblk : 0 < gs.length → ∃ g o, a = ⟨g, o, none⟩ ∧ g < W.heap.size := fun h0 => by
      have hc0 := (hgs 0 h0).2.2 0 hz
      have hl0 := hlen _ (List.getElem_mem h0)
      rw [List.getElem?_eq_getElem (by omega)] at hc0
      obtain ⟨g, o, spot⟩ := a
      have hspot : spot = none := by simpa [Addr.add] using World.cell?_spot hc0
      subst hspot
      refine ⟨g, o, rfl, ?_⟩
      have := World.block_lt_of_cell? _ _ hc0
      simpa [Addr.add] using this
    refine ⟨gs.map (·.2), ⟨_, gs, rfl, rfl, ⟨some a, m, rfl, hl, hm, cellsOf_len gs _ hlen, fun h0 => ?_⟩, fun h0 k hk => ?_, fun p hp => ?_⟩, ?_⟩
    · obtain ⟨g, o, rfl, hg⟩ := hblk h0
      refine ⟨g, o, rfl, hg, fun j hj => ?_⟩
      have hdm := Nat.div_add_mod j r.size
      have hjm := Nat.mod_lt j hz
      have hji : j / r.size < gs.length := Nat.div_lt_of_lt_mul (by rw [Nat.mul_comm]; exact hj)
      have h1 := (hgs _ hji).2.2 (j % r.size) hjm
      have h2 := cellsOf_get gs r.size hlen _ hji _ hjm
      rw [show j / r.size * r.size + j % r.size = j from by rw [Nat.mul_comm]; exact hdm] at h1 h2
      rw [show (⟨g, o, none⟩ : Addr).add j = ⟨g, o + j, none⟩ from by unfold Addr.add; split <;> simp_all] at h1
      rw [h1, h2]
    · obtain ⟨g, o, rfl, hg⟩ := hblk h0
      simp only [Value.ownBlock, Option.map_some, Option.some.injEq] at hk
      omega
    · obtain ⟨i, hi', rfl⟩ := List.getElem_of_mem hp
      exact (hgs i hi').1
    · have e := (Prod.mk.inj hx).1
      subst e
      simp only [Rows.uptoBulk, bL]
      have key : ∀ (k : Nat) (hk : k ≤ gs.length), ((gs.take k).map fun p => b p.2).sum ≤ Rows.uptoBulkAll ((List.range k).map D) := by
        intro k
        induction k with
        | zero => intro _; simp [Rows.uptoBulkAll]
        | succ k ih =>
          intro hk
          have h1 := ih (by omega)
          have h2 := (hgs k (by omega)).2.1
          have happ : ∀ (l : List (DataW H)) (y : DataW H), Rows.uptoBulkAll (l ++ [y]) = Rows.uptoBulkAll l + Rows.uptoBulk y := by
            intro l y
            induction l with
            | nil => simp [Rows.uptoBulkAll]
            | cons z zs ihz => simp only [List.cons_append, Rows.uptoBulkAll, ihz]; omega
          rw [List.range_succ, List.map_append, List.map_singleton, happ, List.take_succ_eq_append_getElem (by omega), List.map_append, List.sum_append]
          simp only [List.map_singleton, List.sum_singleton]
          omega
      have := key gs.length (Nat.le_refl _)
      rw [List.take_length] at this
      rw [List.map_map]
      have e2 : (gs.map (b ∘ fun x => x.2)).sum = (gs.map fun p => b p.2).sum := rfl
      omega

/-! ### structs -/

def OpensFs {α : Type} (r : Rdr α) (b : α → Nat) (fs : List Field) (off : Nat) : Prop :=
  ∀ {H : Type} {enc : TypeId × Value → H} {W : World} {n : Nat} {cs : List Value} {xs : List (DataW H × List MemPlace)}, xs.length = fs.length →
    (∀ (i : Nat) (f : Field), fs[i]? = some f → DataW.trod enc Try.prog W 0 (fun _ => true) true n f.type ((cs.drop f.offset).take (Try.prog.cellsOf f.type)) = xs[i]?) →
    ∃ x, r.rd W (fun k => k < W.heap.size) ((cs.drop off).take r.size) x ∧ b x ≤ Rows.uptoBulkAll (xs.map (·.1))

theorem opensFs_one {α : Type} {r : Rdr α} {b : α → Nat} {f : Field} {t : TypeId} {off : Nat} (o : Opens r b t) (ht : f.type = t) (hoff : f.offset = off) : OpensFs r b [f] off := by
  intro H enc W n cs xs hl h
  subst ht hoff
  match xs, hl with
  | [y], _ =>
    have h0 := h 0 f rfl
    rw [o.cells] at h0
    obtain ⟨x, h1, h2⟩ := o.op (d := y.1) (ps := y.2) (by simpa using h0)
    exact ⟨x, h1, by simpa [Rows.uptoBulkAll] using h2⟩
theorem opensFs_cons {α β : Type} {r : Rdr α} {b : α → Nat} {r' : Rdr β} {b' : β → Nat} {f : Field} {fs : List Field} {t : TypeId} {off : Nat} (o : Opens r b t) (ht : f.type = t) (hoff : f.offset = off) (k : OpensFs r' b' fs (off + r.size)) : OpensFs (rPair r r') (bP b b') (f :: fs) off := by
  intro H enc W n cs xs hl h
  subst ht hoff
  match xs, hl with
  | y :: ys, hl =>
    have h0 := h 0 f rfl
    rw [o.cells] at h0
    obtain ⟨x, h1, h2⟩ := o.op (d := y.1) (ps := y.2) (by simpa using h0)
    obtain ⟨x', h1', h2'⟩ := k (cs := cs) (xs := ys) (by simpa using hl) fun i g hg => by simpa using h (i + 1) g (by simpa using hg)
    refine ⟨(x, x'), ⟨_, _, ?_, h1, h1'⟩, by simp only [bP, List.map_cons, Rows.uptoBulkAll]; omega⟩
    show (cs.drop f.offset).take (r.size + r'.size) = _
    rw [List.take_add, List.drop_drop]
theorem opens_St {α : Type} {r : Rdr α} {b : α → Nat} {t : TypeId} {fs : Array Field} (h : Try.prog.underlying t = some (.struct fs)) (hc : Try.prog.cellsOf t = r.size) (k : OpensFs r b fs.toList 0) : Opens r (bSt b) t := by
  refine ⟨hc, fun {H enc W fuel cs d ps} ht => ?_⟩
  obtain ⟨xs, n, _, e, hl, hlen, hf⟩ := DataW.trod_struct h ht
  obtain ⟨x, h1, h2⟩ := k (cs := cs) (xs := xs) (by simpa using hlen) fun i f hif => hf i f (by simpa using hif)
  rw [List.drop_zero, List.take_of_length_le (by omega)] at h1
  refine ⟨x, h1, ?_⟩
  have := (Prod.mk.inj e).1
  subst this
  simp only [Rows.uptoBulk, bSt]; omega

/-! ### arguments -/
section
variable {H : Type} {enc : TypeId × Value → H} {W : World} {base : Nat} {v : Value} {d : DataW H} {ps : List MemPlace}
set_option maxRecDepth 100000 in
theorem arg_L {α : Type} {r : Rdr α} {b : α → Nat} {t ts : TypeId} (o : Opens (rSl r) (bL b) ts) (h : Try.prog.underlying ts = some (.slice t)) (hval : Value.okWide Try.prog W .any base ts v) (hr : ∃ fuel, DataW.trod enc Try.prog W 0 (fun _ => true) true fuel ts v.cells.toList = some (d, ps)) :
    ∃ xs, RdS r W (fun k => k < W.heap.size) v xs ∧ ∀ n, Rows.uptoBulk d ≤ n → bL b xs ≤ n := by
  obtain ⟨a0, len0, cap0, rfl⟩ := okWide_slice h hval
  obtain ⟨fuel, hf⟩ := hr
  obtain ⟨xs, h1, h2⟩ := o.op (cs := [.slice a0 len0 cap0]) hf
  exact ⟨xs, h1, fun n hn => Nat.le_trans h2 hn⟩
end
end Go.Proofs.Ythobhkmphjnlaaa
