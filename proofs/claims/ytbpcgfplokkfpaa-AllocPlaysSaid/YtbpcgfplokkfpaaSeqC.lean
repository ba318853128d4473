/- A range over a function whose iterator has memory of its own: the caller's blocks are named, the iterator leaves them and all that lay before it; the caller's rounds leave all other blocks. -/
import Derived.RangeFuncNested
import Derived.RangeFuncBound
import Derived.RangeFuncCalls
import Derived.RangeFuncLeaves
import Derived.Test.YtbpcgfplokkfpaaRdr
namespace Go.Proofs.Ytbpcgfplokkfpaa
open Go.RowKit
set_option linter.unusedVariables false
set_option linter.unusedSimpArgs false

abbrev Blk := Nat → Prop

/-- J abides whatever leaves the blocks below B and those of C -/
def Stab {β : Type} (B : Nat) (J : β → Blk → World → Prop) : Prop := ∀ s C W W', J s C W → Keep (fun k => k < B ∨ C k) W W' → J s C W'

/-- what a round that goes on leaves of the world, and which blocks are the caller's behind it -/
def Goes (C : Blk) (W : World) (C' : Blk) (W' : World) : Prop := Keep (fun k => ¬ C k) W W' ∧ ∀ k, C' k → (C k ∨ W.heap.size ≤ k) ∧ k < W'.heap.size

def SeqC {α : Type} (F : Fence) (n : Nat) (P : Program) (g : Nat) (lb : Array Value) (encs : α → Array Value) (S Ok : List α → Prop) (w : World) : Prop :=
  ∀ (l : Nat) (J Jx : List α → Blk → World → Prop) (C : Blk) (W : World), Ext w W → Stab W.heap.size J → Stab W.heap.size Jx →
    (∀ pre x C W1, J pre C W1 → Ok (pre ++ [x]) → YieldAt F (n - 1) P l (encs x) W1 fun e W' =>
      (e = .returned (.bool true) ∧ ∃ C', J (pre ++ [x]) C' W' ∧ Goes C W1 C' W') ∨ (e = .returned (.bool false) ∧ ∃ C', Jx (pre ++ [x]) C' W' ∧ Goes C W1 C' W')) →
    (∀ k, C k → k < W.heap.size) → J [] C W →
    CallsIn F n P g (#[.func (.yield l) #[] #[]] ++ lb) W fun e W' => (∃ v, e = .returned v) ∧ ((∃ xs C', S xs ∧ J xs C' W') ∨ (∃ pre C', Ok pre ∧ Jx pre C' W'))

/-- how the body of a round may be left -/
def postC {α : Type} (C : Blk) (I : List α → Blk → World → Prop) (Ix : Code → List α → Blk → World → Prop) (xs : List α) (W : World) : Exit → Act → World → Prop
  | .normal, _, W' => ∃ C', Goes C W C' W' ∧ I xs C' W'
  | .ret, _, W' => ∃ C', Goes C W C' W' ∧ Ix .ret xs C' W'
  | .exit id, _, W' => ∃ C', Goes C W C' W' ∧ Ix (.exit id) xs C' W'
  | .goto t, _, W' => ∃ C', Goes C W C' W' ∧ Ix (.goto t) xs C' W'
  | .panic _, _, _ => False
  | .outgrown, _, _ => False

theorem keep_putObj {S : Nat → Prop} (W : World) (l : Nat) (o : Obj) (h : ¬ S l) : Keep S W (W.putObj l o) :=
  (keep_grown (grownBy_putObj' W l o)).mono fun k hk _ e => h (by cases e; exact hk)

section
variable {F : Fence} {n : Nat} {P : Program}

theorem wpIn_rangeFunc_C {α : Type} {g : Operand} {ps : Array Tmp} {assign body : Code} {Q : Exit → Act → World → Prop} {a : Act} {w : World}
    (hro : F.round = none) (h1 : 1 ≤ n) {gf : Nat} {lb : Array Value} (hg : a.eval g = .func (.func gf) #[] lb) (hFg : F.fn gf) (eg : ∀ args w, (callFunc gf args).run P w = .ok (.enter gf args) w)
    {encs : α → Array Value} {S Ok : List α → Prop} {w0 : World} (hseq : SeqC F (n - 1) P gf lb encs S Ok w0) (hb0 : Ext w0 w) (hps : ∀ x, (encs x).size = ps.size)
    (I : List α → Blk → World → Prop) (Ix : Code → List α → Blk → World → Prop) (hI : Stab w.heap.size I) (hIx : ∀ c, Stab w.heap.size (Ix c)) (C0 : Blk) (hC0 : ∀ k, C0 k → k < w.heap.size) (h0 : I [] C0 w) (A : α → World → Act → World → Prop)
    (hA : ∀ x W a₁ W₁ W₂, A x W a₁ W₁ → Keep (fun k => W.heap.size ≤ k) W₁ W₂ → A x W a₁ W₂)
    (hassign : ∀ (l : Nat) (x : α) (W : World) (K : Act → World → Prop), (∀ a₁ W₁, A x W a₁ W₁ → Ext W W₁ → K a₁ W₁) →
      assign.wpIn (F.inRound l) (n - 1 - 1) P (Exit.then K (fun _ _ _ => False)) { tmps := (ps.zip (encs x)).foldl (fun t (p, v) => t.setIfInBounds p v) a.tmps, defers := [] } W)
    (hbody : ∀ (l : Nat) (pre : List α) (x : α) (C : Blk) (W : World) (a₁ : Act) (W₂ : World), I pre C W₂ → A x W a₁ W₂ → w.heap.size < W.heap.size → W.heap.size ≤ W₂.heap.size → (∀ k, C k → k < W.heap.size) → Ok (pre ++ [x]) → body.wpIn (F.inRound l) (n - 1 - 1) P (postC (fun k => C k ∨ W.heap.size ≤ k) I Ix (pre ++ [x]) W₂) a₁ W₂)
    (hdone : ∀ (D : Nat) (xs : List α) (C : Blk) (W : World), w.heap.size ≤ D → ¬ C D → S xs → I xs C W → W.heap[D]? = some (.deferred (some [])) → Q .normal { a with defers := { target := .collected D, args := #[] } :: a.defers } W)
    (hstop : ∀ (D : Nat) (c : Code) (pre : List α) (C : Blk) (W : World), w.heap.size ≤ D → ¬ C D → Ok pre → Ix c pre C W → W.heap[D]? = some (.deferred (some [])) → c.wpIn F n P Q { a with defers := { target := .collected D, args := #[] } :: a.defers } W) :
    (Code.rangeFunc g ps assign body).wpIn F n P Q a w := by
  refine wpIn_rangeFunc ?_
  intro fn hfn
  rw [hro]
  obtain ⟨rec, hrec⟩ : ∃ rec : LoopState → Option Code → Loop, rec = fun st pe => { state := st, pending := pe, fn, tmps := a.tmps, params := ps, assign, body, defers := w.heap.size } := ⟨_, rfl⟩
  obtain ⟨W1, hW1⟩ : ∃ W1, (w.alloc (.deferred (some []))).alloc (.loop (rec .ready none)) = W1 := ⟨_, rfl⟩
  have hs1 : W1.heap.size = w.heap.size + 2 := by rw [← hW1]; simp
  have hL1 : W1.heap[w.heap.size + 1]? = some (.loop (rec .ready none)) := by
    rw [← hW1]; have := World.alloc_heap_new (w.alloc (.deferred (some []))) (.loop (rec .ready none)); rwa [World.size_alloc] at this
  have hK1 : W1.heap[w.heap.size]? = some (.deferred (some [])) := by
    rw [← hW1]; exact (Below.heap_alloc _ _ _ (by simp)).trans (World.alloc_heap_new w _)
  have hx1 : Ext w W1 := by rw [← hW1]; exact ((Ext.refl w).alloc _).alloc _
  have hI1 : I [] C0 W1 := hI _ _ _ _ h0 (hx1.keep _)
  refine ⟨w.heap.size + 1, [{ target := .collected w.heap.size, args := #[] }], W1, { target := .fn (.func gf) lb, args := #[.func (.yield (w.heap.size + 1)) #[] #[]] }, W1, gf,
    #[.func (.yield (w.heap.size + 1)) #[] #[]] ++ lb, W1, ?_, ?_, ?_, ?_, fun _ => h1, ?_⟩
  · rw [← hW1, hrec]; exact run_enterLoop_outer _ _ _ _ _
  · simp only [resolve, hg]
    simp [go_sem]
  · intro f' hf'; simp [Target.leads] at hf'; subst hf'; exact hFg
  · simp [invoke, go_sem, eg]
  · have hstab : ∀ (X : List α → Blk → World → Prop), Stab w.heap.size X → ∀ (r : World → Prop), (∀ W W', r W → W'.heap[w.heap.size + 1]? = W.heap[w.heap.size + 1]? → r W') →
        Stab W1.heap.size (fun pre C W => ∃ Cb : Blk, (∀ k, Cb k → C k) ∧ C (w.heap.size) ∧ C (w.heap.size + 1) ∧ ¬ Cb w.heap.size ∧ ¬ Cb (w.heap.size + 1) ∧ (∀ k, C k → Cb k ∨ k = w.heap.size ∨ k = w.heap.size + 1) ∧ X pre Cb W ∧ (∀ k, Cb k → k < W.heap.size) ∧ w.heap.size + 1 < W.heap.size ∧ r W ∧ W.heap[w.heap.size]? = some (.deferred (some []))) := by
      rintro X hX r hr s C A B ⟨Cb, q1, q2, q3, q4, q5, q6, q7, q8, q9, q10, q11⟩ hk
      refine ⟨Cb, q1, q2, q3, q4, q5, q6, hX _ _ _ _ q7 (hk.mono fun k hk' _ => ?_), fun k hk' => Nat.lt_of_lt_of_le (q8 k hk') hk.size, Nat.lt_of_lt_of_le q9 hk.size, hr _ _ q10 (hk.block _ (.inr q3) q9), (hk.block _ (.inr q2) (by omega)).trans q11⟩
      rcases hk' with h | h
      · exact .inl (by omega)
      · exact .inr (q1 k h)
    have goes : ∀ {C Cb C' : Blk} {A B : World}, (∀ k, Cb k → C k) → C w.heap.size → C (w.heap.size + 1) → (∀ k, C k → Cb k ∨ k = w.heap.size ∨ k = w.heap.size + 1) → w.heap.size + 1 < A.heap.size → Keep (fun k => ¬ Cb k ∧ k ≠ w.heap.size + 1) A B → (∀ k, C' k → (Cb k ∨ A.heap.size ≤ k) ∧ k < B.heap.size) →
        Goes C A (fun k => C' k ∨ k = w.heap.size ∨ k = w.heap.size + 1) B := by
      intro C Cb C' A B q1 q2 q3 q6 q9 hk hc
      refine ⟨hk.mono fun k hk' _ => ⟨fun h => hk' (q1 k h), fun e => hk' (e ▸ q3)⟩, fun k hk' => ?_⟩
      have hsz := hk.size
      rcases hk' with h | h | h
      · obtain ⟨h1, h2⟩ := hc k h
        refine ⟨?_, h2⟩
        rcases h1 with h1 | h1
        · exact .inl (q1 k h1)
        · exact .inr h1
      · subst h; exact ⟨.inl q2, by omega⟩
      · subst h; exact ⟨.inl q3, by omega⟩
    refine (hseq (w.heap.size + 1)
      (fun pre C W => ∃ Cb : Blk, (∀ k, Cb k → C k) ∧ C (w.heap.size) ∧ C (w.heap.size + 1) ∧ ¬ Cb w.heap.size ∧ ¬ Cb (w.heap.size + 1) ∧ (∀ k, C k → Cb k ∨ k = w.heap.size ∨ k = w.heap.size + 1) ∧ I pre Cb W ∧ (∀ k, Cb k → k < W.heap.size) ∧ w.heap.size + 1 < W.heap.size ∧ W.heap[w.heap.size + 1]? = some (.loop (rec .ready none)) ∧ W.heap[w.heap.size]? = some (.deferred (some [])))
      (fun pre C W => ∃ Cb : Blk, (∀ k, Cb k → C k) ∧ C (w.heap.size) ∧ C (w.heap.size + 1) ∧ ¬ Cb w.heap.size ∧ ¬ Cb (w.heap.size + 1) ∧ (∀ k, C k → Cb k ∨ k = w.heap.size ∨ k = w.heap.size + 1) ∧ (∃ c, Ix c pre Cb W ∧ W.heap[w.heap.size + 1]? = some (.loop (rec .done (some c)))) ∧ (∀ k, Cb k → k < W.heap.size) ∧ w.heap.size + 1 < W.heap.size ∧ True ∧ W.heap[w.heap.size]? = some (.deferred (some [])))
      (fun k => C0 k ∨ k = w.heap.size ∨ k = w.heap.size + 1)
      W1 (hb0.trans hx1) (hstab I hI (fun W => W.heap[w.heap.size + 1]? = some (.loop (rec .ready none))) (fun A B h e => e.trans h)) ?_ ?_ ?_ ?_).mono ?_
    · rintro s C A B ⟨Cb, q1, q2, q3, q4, q5, q6, ⟨c, q7, q7'⟩, q8, q9, q10, q11⟩ hk
      refine ⟨Cb, q1, q2, q3, q4, q5, q6, ⟨c, hIx c _ _ _ _ q7 (hk.mono fun k hk' _ => ?_), (hk.block _ (.inr q3) q9).trans q7'⟩, fun k hk' => Nat.lt_of_lt_of_le (q8 k hk') hk.size, Nat.lt_of_lt_of_le q9 hk.size, trivial, (hk.block _ (.inr q2) (by omega)).trans q11⟩
      rcases hk' with h | h
      · exact .inl (by omega)
      · exact .inr (q1 k h)
    · -- one round
      rintro pre x C W ⟨Cb, q1, q2, q3, q4, q5, q6, hi, q8, hlt, hl, hk⟩ hlen
      have hy := run_yield (P := P) (args := encs x) hl (by rw [hrec]; exact hps x)
      rw [hrec] at hy
      refine ⟨fn, _, assign, body, hy, roundIn_of_wpIn hfn (hassign _ x W _ fun a₁ Wa hAa hxa => ⟨_, run_beginRound ((Below.block hxa _ hlt).trans hl) (by rw [hrec]), ?_⟩)⟩
      have hla := (Below.block hxa _ hlt).trans hl
      have hka := (Below.block hxa _ (by omega : w.heap.size < W.heap.size)).trans hk
      have hsa := hxa.size
      obtain ⟨W2, hW2⟩ : ∃ W2, Wa.putObj (w.heap.size + 1) (.loop { rec .ready none with state := .busy }) = W2 := ⟨_, rfl⟩
      rw [hW2]
      have hl2 : W2.heap[w.heap.size + 1]? = some (.loop { rec .ready none with state := .busy }) := by rw [← hW2]; exact World.putObj_heap_same (by omega)
      have hk2 : W2.heap[w.heap.size]? = some (.deferred (some [])) := by rw [← hW2]; exact (World.putObj_heap_other (by omega)).trans hka
      have hkeep2 : ∀ (X : Nat → Prop), ¬ X (w.heap.size + 1) → Keep X Wa W2 := fun X hX => by rw [← hW2]; exact keep_putObj Wa _ _ hX
      have hs2 : Wa.heap.size ≤ W2.heap.size := (hkeep2 (fun _ => False) (fun h => h)).size
      have hi2 : I pre Cb W2 := hI _ _ _ _ (hI _ _ _ _ hi (hxa.keep _)) (hkeep2 _ (fun h => by rcases h with h | h; omega; exact q5 h))
      refine wpIn_mono (hbody _ pre x Cb W a₁ W2 hi2 (hA _ _ _ _ _ hAa (hkeep2 _ (fun h => by have : W.heap.size ≤ w.heap.size + 1 := h; omega))) (by omega) (by omega) q8 hlen) ?_
      have fin : ∀ (jump : Option Code) (C' : Blk) (W3 : World), Goes (fun k => Cb k ∨ W.heap.size ≤ k) W2 C' W3 →
          (Instr.endRound (w.heap.size + 1) jump).run P W3 = .ok (.bool jump.isNone) (W3.putObj (w.heap.size + 1) (.loop (rec (if jump.isNone then .ready else .done) jump))) ∧
          (W3.putObj (w.heap.size + 1) (.loop (rec (if jump.isNone then .ready else .done) jump))).heap[w.heap.size + 1]? = some (.loop (rec (if jump.isNone then .ready else .done) jump)) ∧
          (W3.putObj (w.heap.size + 1) (.loop (rec (if jump.isNone then .ready else .done) jump))).heap[w.heap.size]? = some (.deferred (some [])) ∧
          (∀ X : Nat → Prop, ¬ X (w.heap.size + 1) → Keep X W3 (W3.putObj (w.heap.size + 1) (.loop (rec (if jump.isNone then .ready else .done) jump)))) ∧
          ¬ C' w.heap.size ∧ ¬ C' (w.heap.size + 1) ∧ w.heap.size + 1 < W3.heap.size ∧
          Goes C W (fun k => C' k ∨ k = w.heap.size ∨ k = w.heap.size + 1) (W3.putObj (w.heap.size + 1) (.loop (rec (if jump.isNone then .ready else .done) jump))) := fun jump C' W3 hg3 => by
        obtain ⟨hk3, hc3⟩ := hg3
        have hl3 := (hk3.block _ (fun h => by rcases h with h | h; exact q5 h; omega) (by omega)).trans hl2
        have hd3 := (hk3.block _ (fun h => by rcases h with h | h; exact q4 h; omega) (by omega)).trans hk2
        have hlt3 := (Array.getElem?_eq_some_iff.1 hl3).1
        have hkp : ∀ X : Nat → Prop, ¬ X (w.heap.size + 1) → Keep X W3 (W3.putObj (w.heap.size + 1) (.loop (rec (if jump.isNone then .ready else .done) jump))) := fun X hX => keep_putObj W3 _ _ hX
        have := run_endRound (P := P) jump hl3
        rw [hrec] at this ⊢
        rw [hrec] at hkp
        refine ⟨this, World.putObj_heap_same hlt3, (World.putObj_heap_other (by omega)).trans hd3, hkp, fun h => ?_, fun h => ?_, hlt3, ?_⟩
        · rcases (hc3 _ h).1 with (h1 | h1) | h1
          · exact q4 h1
          · omega
          · omega
        · rcases (hc3 _ h).1 with (h1 | h1) | h1
          · exact q5 h1
          · omega
          · omega
        · have hS : Keep (fun k => ¬ Cb k ∧ k ≠ w.heap.size + 1 ∧ k < W.heap.size) W (W3.putObj (w.heap.size + 1) (.loop (rec (if jump.isNone then .ready else .done) jump))) := by
            rw [hrec]
            exact (((hxa.keep _).trans (hkeep2 _ (fun h => h.2.1 rfl))).trans (hk3.mono fun k hk' _ h => by rcases h with h | h; exact hk'.1 h; (have := hk'.2.2; omega))).trans (hkp _ (fun h => h.2.1 rfl))
          rw [hrec] at hS
          refine goes q1 q2 q3 q6 hlt (hS.mono fun k hk' hl' => ⟨hk'.1, hk'.2, hl'⟩) (fun k hk' => ?_)
          obtain ⟨h1, h2⟩ := hc3 k hk'
          refine ⟨?_, Nat.lt_of_lt_of_le h2 (hkp (fun _ => False) (fun h => h)).size⟩
          rcases h1 with (h1 | h1) | h1
          · exact .inl h1
          · exact .inr h1
          · exact .inr (by omega)
      rintro e a3 W3 hp
      cases e with
      | normal =>
        obtain ⟨C', hg3, hi3⟩ := hp
        obtain ⟨hr, hl4, hk4, hkp, n1, n2, hlt3, hgo⟩ := fin none C' W3 hg3
        exact ⟨_, _, hr, .inl ⟨rfl, _, ⟨C', fun k h => .inl h, .inr (.inl rfl), .inr (.inr rfl), n1, n2, fun k h => h, hI _ _ _ _ hi3 (hkp _ (fun h => by rcases h with h | h; omega; exact n2 h)), fun k h => (hgo.2 k (.inl h)).2, Nat.lt_of_lt_of_le hlt3 (hkp (fun _ => False) (fun h => h)).size, hl4, hk4⟩, hgo⟩⟩
      | ret =>
        obtain ⟨C', hg3, hi3⟩ := hp
        obtain ⟨hr, hl4, hk4, hkp, n1, n2, hlt3, hgo⟩ := fin (some .ret) C' W3 hg3
        exact ⟨_, _, hr, .inr ⟨rfl, _, ⟨C', fun k h => .inl h, .inr (.inl rfl), .inr (.inr rfl), n1, n2, fun k h => h, ⟨.ret, hIx _ _ _ _ _ hi3 (hkp _ (fun h => by rcases h with h | h; omega; exact n2 h)), hl4⟩, fun k h => (hgo.2 k (.inl h)).2, Nat.lt_of_lt_of_le hlt3 (hkp (fun _ => False) (fun h => h)).size, trivial, hk4⟩, hgo⟩⟩
      | exit id =>
        obtain ⟨C', hg3, hi3⟩ := hp
        obtain ⟨hr, hl4, hk4, hkp, n1, n2, hlt3, hgo⟩ := fin (some (.exit id)) C' W3 hg3
        exact ⟨_, _, hr, .inr ⟨rfl, _, ⟨C', fun k h => .inl h, .inr (.inl rfl), .inr (.inr rfl), n1, n2, fun k h => h, ⟨.exit id, hIx _ _ _ _ _ hi3 (hkp _ (fun h => by rcases h with h | h; omega; exact n2 h)), hl4⟩, fun k h => (hgo.2 k (.inl h)).2, Nat.lt_of_lt_of_le hlt3 (hkp (fun _ => False) (fun h => h)).size, trivial, hk4⟩, hgo⟩⟩
      | goto t =>
        obtain ⟨C', hg3, hi3⟩ := hp
        obtain ⟨hr, hl4, hk4, hkp, n1, n2, hlt3, hgo⟩ := fin (some (.goto t)) C' W3 hg3
        exact ⟨_, _, hr, .inr ⟨rfl, _, ⟨C', fun k h => .inl h, .inr (.inl rfl), .inr (.inr rfl), n1, n2, fun k h => h, ⟨.goto t, hIx _ _ _ _ _ hi3 (hkp _ (fun h => by rcases h with h | h; omega; exact n2 h)), hl4⟩, fun k h => (hgo.2 k (.inl h)).2, Nat.lt_of_lt_of_le hlt3 (hkp (fun _ => False) (fun h => h)).size, trivial, hk4⟩, hgo⟩⟩
      | panic ch => exact hp.elim
      | outgrown => exact hp.elim
    · rintro k (h | h | h)
      · have := hC0 k h; omega
      · omega
      · omega
    · exact ⟨C0, fun k h => .inl h, .inr (.inl rfl), .inr (.inr rfl), fun h => by have := hC0 _ h; omega, fun h => by have := hC0 _ h; omega, fun k h => h, hI1, fun k h => by have := hC0 k h; omega, by omega, hL1, hK1⟩
    · -- behind the iterator
      rintro e W2 ⟨⟨v, rfl⟩, (⟨xs, C, hS, Cb, q1, q2, q3, q4, q5, q6, hi, q8, hlt, hl, hk⟩ | ⟨pre, C, hSp, Cb, q1, q2, q3, q4, q5, q6, ⟨c, hi, hl⟩, q8, hlt, -, hk⟩)⟩
      · exact ⟨none, _, by have := run_endLoop (P := P) hl (by rw [hrec]; simp); rw [hrec] at this; exact this, hdone _ xs Cb _ (Nat.le_refl _) q4 hS (hI _ _ _ _ hi (keep_putObj W2 _ _ (fun h => by rcases h with h | h; omega; exact q5 h))) ((World.putObj_heap_other (by omega)).trans hk)⟩
      · exact ⟨some c, _, by have := run_endLoop (P := P) hl (by rw [hrec]; simp); rw [hrec] at this; exact this, hstop _ c pre Cb _ (Nat.le_refl _) q4 hSp (hIx c _ _ _ _ hi (keep_putObj W2 _ _ (fun h => by rcases h with h | h; omega; exact q5 h))) ((World.putObj_heap_other (by omega)).trans hk)⟩
end
end Go.Proofs.Ytbpcgfplokkfpaa
