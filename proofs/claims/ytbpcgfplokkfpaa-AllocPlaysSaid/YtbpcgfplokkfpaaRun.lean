/- Rows of runs in memory: what a []api.Run reads as; rows of the call's own; append, a cell turned. -/
import Derived.Test.YtbpcgfplokkfpaaRdr
import Derived.Test.YtbpcgfplokkfpaaRunL
namespace Go.Proofs.Ytbpcgfplokkfpaa
open Go.RowKit
set_option linter.unusedVariables false
set_option linter.unusedSimpArgs false

def runCells (xs : List Run) : List Value := xs.flatMap fun x => [.int .i64 x.1, .int .i64 x.2]
theorem runCells_length (xs : List Run) : (runCells xs).length = xs.length * 2 := by
  induction xs with
  | nil => rfl
  | cons x xs ih => simp only [runCells, List.flatMap_cons, List.length_append, List.length_cons, List.length_nil] at ih ⊢; omega
theorem runCells_append (a b : List Run) : runCells (a ++ b) = runCells a ++ runCells b := by simp [runCells]
theorem runCells_get (xs : List Run) : ∀ (i : Nat) (h : i < xs.length), (runCells xs)[i * 2]? = some (.int .i64 xs[i].1) ∧ (runCells xs)[i * 2 + 1]? = some (.int .i64 xs[i].2) := by
  induction xs with
  | nil => intro i h; simp at h
  | cons x xs ih =>
    intro i h
    cases i with
    | zero => simp [runCells]
    | succ i =>
      have := ih i (by simpa using h)
      rw [show (i + 1) * 2 = i * 2 + 2 from by omega, show i * 2 + 2 + 1 = i * 2 + 1 + 2 from by omega]
      simpa [runCells] using this
theorem runCells_set (xs : List Run) : ∀ (i : Nat) (m : Int) (h : i < xs.length), (runCells xs).set (i * 2 + 1) (.int .i64 m) = runCells (xs.set i (xs[i].1, m)) := by
  induction xs with
  | nil => intro i m h; simp at h
  | cons x xs ih =>
    intro i m h
    cases i with
    | zero => simp [runCells]
    | succ i =>
      have := ih i m (by simpa using h)
      rw [show (i + 1) * 2 + 1 = i * 2 + 1 + 2 from by omega]
      simp only [runCells, List.flatMap_cons, List.cons_append, List.nil_append, List.set_cons_succ, List.getElem_cons_succ] at this ⊢
      rw [this]
theorem runCells_set0 (xs : List Run) : ∀ (i : Nat) (m : Int) (h : i < xs.length), (runCells xs).set (i * 2) (.int .i64 m) = runCells (xs.set i (m, xs[i].2)) := by
  induction xs with
  | nil => intro i m h; simp at h
  | cons x xs ih =>
    intro i m h
    cases i with
    | zero => simp [runCells]
    | succ i =>
      have := ih i m (by simpa using h)
      rw [show (i + 1) * 2 = i * 2 + 2 from by omega]
      simp only [runCells, List.flatMap_cons, List.cons_append, List.nil_append, List.set_cons_succ, List.getElem_cons_succ] at this ⊢
      rw [this]
theorem runCells_one (xs : List Run) : ∀ u ∈ runCells xs, u.oneCell' = true := by
  intro u hu
  obtain ⟨x, _, hu⟩ := List.mem_flatMap.1 hu
  simp only [List.mem_cons, List.not_mem_nil, or_false] at hu
  rcases hu with rfl | rfl <;> rfl

def RdR (w : World) (v : Value) (xs : List Run) : Prop := Rd w 2 v xs.length (runCells xs)
def OwnR (w : World) (base : Nat) (v : Value) (xs : List Run) : Prop := w.ownsRow base 43 2 v xs.length (runCells xs)
def RunOk (x : Run) : Prop := (-9223372036854775808 ≤ x.1 ∧ x.1 ≤ 9223372036854775807) ∧ -9223372036854775808 ≤ x.2 ∧ x.2 ≤ 9223372036854775807

section
variable {w w' : World} {base : Nat} {v : Value} {xs : List Run}
theorem RdR.ext (h : RdR w v xs) (hx : Ext w w') : RdR w' v xs := Rd.below h hx
theorem RdR.keep {S : Nat → Prop} (h : RdR w v xs) (hk : Keep S w w') (hS : 0 < xs.length → ∀ k, v.ownBlock = some k → S k) : RdR w' v xs :=
  Rd.carry0 h hk.size fun hn k hb hl => hk.block k (hS hn k hb) hl
theorem RdR.nil (w : World) : RdR w (.slice none 0 0) [] := Rd.nil _ _
theorem OwnR.nil (w : World) (base : Nat) : OwnR w base (.slice none 0 0) [] := World.ownsRow_nil _ _ _ _
theorem OwnR.rd (h : OwnR w base v xs) : RdR w v xs := rd_of_own h
theorem OwnR.ext (h : OwnR w base v xs) (hx : Ext w w') : OwnR w' base v xs := own_belowS h hx
theorem OwnR.keep {S : Nat → Prop} (h : OwnR w base v xs) (hk : Keep S w w') (hS : ∀ k, v.ownBlock = some k → S k) : OwnR w' base v xs := own_kept h fun k hb => hk.block k (hS k hb) (h.lt k hb).2
theorem OwnR.low {base' : Nat} (h : OwnR w base v xs) (hb : base' ≤ base) : OwnR w base' v xs := own_base h hb
theorem RdR.slice (h : RdR w v xs) : ∃ a cap, v = .slice a xs.length cap ∧ xs.length ≤ cap ∧ cap ≤ 9223372036854775807 := by
  obtain ⟨a, cap, rfl, h1, h2, _⟩ := h
  exact ⟨a, cap, rfl, h1, by unfold maxLen at h2; omega⟩
theorem RdR.at (h : RdR w v xs) (i : Nat) (hi : i < xs.length) :
    ∃ g o cap, v = .slice (some ⟨g, o, none⟩) xs.length cap ∧ g < w.heap.size ∧ w.cell? ⟨g, o + i * 2, none⟩ = some (.int .i64 xs[i].1) ∧ w.cell? ⟨g, o + i * 2 + 1, none⟩ = some (.int .i64 xs[i].2) := by
  obtain ⟨a, cap, rfl, h1, h2, h3, h4⟩ := h
  obtain ⟨g, o, rfl, hg, hc⟩ := h4 (by omega)
  obtain ⟨e1, e2⟩ := runCells_get xs i hi
  exact ⟨g, o, cap, rfl, hg, by rw [hc _ (by omega), e1], by rw [Nat.add_assoc, hc _ (by omega), e2]⟩
theorem OwnR.at (h : OwnR w base v xs) (i : Nat) (hi : i < xs.length) :
    ∃ g cap, v = .slice (some ⟨g, 0, none⟩) xs.length cap ∧ base ≤ g ∧ g < w.heap.size ∧ w.cell? ⟨g, i * 2, none⟩ = some (.int .i64 xs[i].1) ∧ w.cell? ⟨g, i * 2 + 1, none⟩ = some (.int .i64 xs[i].2) ∧
      w.frozen? ⟨g, i * 2, none⟩ = false ∧ w.frozen? ⟨g, i * 2 + 1, none⟩ = false := by
  obtain ⟨g, o, cap, rfl, hg, c0, c1⟩ := h.rd.at i hi
  have hlt := h.lt g rfl
  have ho : o = 0 := by
    rcases h.2 with ⟨e, h0⟩ | ⟨g', cap', cur, e, _⟩
    · omega
    · simp only [Value.slice.injEq, Option.some.injEq, Addr.mk.injEq] at e
      omega
  subst ho
  rw [Nat.zero_add] at c0 c1
  exact ⟨g, cap, rfl, hlt.1, hg, c0, c1, World.ownsRow.frozenAt h _, World.ownsRow.frozenAt h _⟩
theorem OwnR.setLen {g cap n : Nat} (h : OwnR w base (.slice (some ⟨g, 0, none⟩) n cap) xs) (i : Nat) (hi : i < xs.length) (m : Int) (hn : n = xs.length) : OwnR (w.setCell ⟨g, i * 2 + 1, none⟩ (.int .i64 m)) base (.slice (some ⟨g, 0, none⟩) n cap) (xs.set i (xs[i].1, m)) := by
  subst hn
  have := (World.ownsRow.stored h (i * 2 + 1) (.int .i64 m)).1
  unfold OwnR
  rw [List.length_set, ← runCells_set xs i m hi]
  exact this
theorem OwnR.setFrom {g cap n : Nat} (h : OwnR w base (.slice (some ⟨g, 0, none⟩) n cap) xs) (i : Nat) (hi : i < xs.length) (m : Int) (hn : n = xs.length) : OwnR (w.setCell ⟨g, i * 2, none⟩ (.int .i64 m)) base (.slice (some ⟨g, 0, none⟩) n cap) (xs.set i (m, xs[i].2)) := by
  subst hn
  have := (World.ownsRow.stored h (i * 2) (.int .i64 m)).1
  unfold OwnR
  rw [List.length_set, ← runCells_set0 xs i m hi]
  exact this
end

theorem rdS_runs {w : World} {S : Nat → Prop} {v : Value} {xs : List Run} (h : RdS (rPair rI rI) w S v xs) : RdR w v xs ∧ (∀ x ∈ xs, RunOk x) ∧ (0 < xs.length → ∀ k, v.ownBlock = some k → S k) := by
  obtain ⟨v', gs, e, rfl, h0, hS, hp⟩ := h
  obtain rfl := List.singleton_inj.1 e
  have hc : cellsOf gs = runCells (gs.map (·.2)) := by
    unfold cellsOf runCells
    rw [List.flatMap_map]
    rw [List.flatMap_def, List.flatMap_def]
    congr 1
    apply List.map_congr_left
    intro p hp'
    obtain ⟨c1, c2, e, ⟨rfl, _⟩, ⟨rfl, _⟩⟩ := hp p hp'
    rw [e]; rfl
  refine ⟨?_, ?_, by rw [List.length_map]; exact hS⟩
  · unfold RdR
    rw [List.length_map, ← hc]
    exact h0
  · intro x hx
    obtain ⟨p, hp', rfl⟩ := List.mem_map.1 hx
    obtain ⟨c1, c2, e, ⟨rfl, h1⟩, ⟨rfl, h2⟩⟩ := hp p hp'
    exact ⟨h1, h2⟩

theorem infoRun : (Try.prog.info? 43).map (fun i => (i.zero, i.size, i.bytes)) = some (some (.agg #[.int .i64 0, .int .i64 0]), 2, 16) := by kernel_rfl

/-- append to a row of runs of the call's own -/
theorem wl_appR {w : World} {ops : Array Oper} {rest : List Oper} {o : Oper} {a : Act} {Q : Exit → Act → World → Prop} (hgd : o.guard = none) (s x : Operand) (tx : TypeId)
    (ho : o.op = .call { callee := .builtin .append, args := #[s, x], argTypes := #[37, tx] }) (base : Nat)
    (v : Value) (xs : List Run) (hs : a.eval s = v) (happ : OwnR w base v xs)
    (y : Value) (ys : List Run) (hx : a.eval x = y) (hsrc : Src Try.prog 2 tx y ys.length (runCells ys) w)
    (hbytes : (xs.length + ys.length) * 16 ≤ 140737488355328) (hbase : base ≤ w.heap.size)
    (h : ∀ v' w', OwnR w' base v' (xs ++ ys) → w.grownBy w' v.ownBlock → Below base w w' → (∀ k, v'.ownBlock = some k → v.ownBlock = some k ∨ w.heap.size ≤ k) → wpList Try.prog ops Q rest (a.put o.dst v') w') : wpList Try.prog ops Q (o :: rest) a w := by
  obtain ⟨i0, hi, hz0, hz1, hz2⟩ := info_parts infoRun
  refine wpList_plain hgd fun _ hK => wp_append_app s x 37 tx ho base 43 i0 (.agg #[.int .i64 0, .int .i64 0]) 2 16 Try.underlying37 hi hz0 hz1 hz2 rfl v xs.length (runCells xs) hs (.inl happ) (runCells_one xs) y ys.length (runCells ys) hx hsrc (by omega) (by omega) hbase ?_
  intro v' w' h1 h2 h3 h4 h5 h6
  have := h3 happ
  rw [← List.length_append, ← runCells_append] at this
  exact hK _ _ (h v' w' this h4 h5 h6)
theorem src_run (w : World) (g : Nat) (r : Run) (hg : w.heap.size = g) : Src Try.prog 2 37 (.slice (some ⟨g, 0, none⟩) 1 1) [r].length (runCells [r]) (w.alloc (.cells #[.int .i64 r.1, .int .i64 r.2] 43)) := by
  subst hg
  refine Src.ofSlice _ Try.underlying37 ⟨w.heap.size, 0, none⟩ 1 1 (runCells [r]) rfl (fun j u hu => ?_) (runCells_one _)
  match j with
  | 0 => simp [runCells] at hu; subst hu; simp [Addr.add, go_sem]
  | 1 => simp [runCells] at hu; subst hu; simp [Addr.add, go_sem]
  | j + 2 => simp [runCells] at hu
theorem src_R {w : World} {x : Value} {m : List Run} (h : RdR w x m) : Src Try.prog 2 37 x m.length (runCells m) w := src_rd Try.underlying37 h (runCells_one m)
/-- a row that a literal has just laid -/
theorem ownR_blk (w : World) (base g : Nat) (cells : Array Value) (xs : List Run) (n : Nat) (hb : base ≤ w.heap.size) (hg : w.heap.size = g) (hn : n = xs.length) (hm : n ≤ 9223372036854775807) (h : cells.toList = runCells xs) :
    OwnR (w.alloc (.cells cells 43)) base (.slice (some ⟨g, 0, none⟩) n n) xs := by
  subst hn hg
  have hs : cells.size = xs.length * 2 := by rw [← Array.length_toList, h, runCells_length]
  refine ⟨by rw [runCells_length], .inr ⟨_, _, cells, rfl, hb, heap_alloc_new _ _, Nat.le_refl _, by unfold maxLen; omega, by simpa using hs, ?_⟩⟩
  rw [h, List.take_of_length_le (by rw [runCells_length]; omega)]
end Go.Proofs.Ytbpcgfplokkfpaa
