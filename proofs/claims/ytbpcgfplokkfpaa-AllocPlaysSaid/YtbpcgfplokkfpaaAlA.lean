/- Maps of blocks in memory: rows of bools; slices.Clone of them; what tells whether a block is free. -/
import Derived.Test.YtbpcgfplokkfpaaRdr
import Derived.Test.YtbpcgfplokkfpaaAlL
namespace Go.Proofs.Ytbpcgfplokkfpaa
open Go.RowKit
set_option linter.unusedVariables false
set_option linter.unusedSimpArgs false

theorem set_blk {w : World} {g o : Nat} {c : Array Value} {t : TypeId} {f : Nat × Nat} (h : w.heap[g]? = some (.cells c t f)) (u : Value) : (w.setCell ⟨g, o, none⟩ u).heap[g]? = some (.cells (c.setIfInBounds o u) t f) := by
  simp [World.setCell, Array.getElem?_modify, h]
theorem frozen_blk {w : World} {g : Nat} {c : Array Value} {t : TypeId} (h : w.heap[g]? = some (.cells c t (0, 0))) (o : Nat) : w.frozen? ⟨g, o, none⟩ = false := by simp [World.frozen?, h]
theorem heap_alloc_sz (w : World) (o : Obj) : (w.alloc o).heap.size = w.heap.size + 1 := by simp
theorem heap_setCell_sz (w : World) (p : Addr) (v : Value) : (w.setCell p v).heap.size = w.heap.size := by simp [World.setCell]
theorem infoBool : (Try.prog.info? 4).map (fun i => (i.zero, i.size, i.bytes)) = some (some (.bool false), 1, 1) := by kernel_rfl
theorem RdS.src {α : Type} {r : Rdr α} {w : World} {S : Nat → Prop} {v : Value} {xs : List α} {tx t : TypeId} (hu : Try.prog.underlying tx = some (.slice t)) (h : RdS r w S v xs) : ∃ gs : List (List Value × α), xs = gs.map (·.2) ∧ Src Try.prog r.size tx v gs.length (cellsOf gs) w ∧ ∀ p ∈ gs, r.rd w S p.1 p.2 := by
  obtain ⟨v', gs, e, rfl, h1, h2, h3⟩ := h
  obtain rfl := List.singleton_inj.1 e
  refine ⟨gs, rfl, src_rd hu h1 (fun u hu => ?_), h3⟩
  obtain ⟨p, hp, hu⟩ := List.mem_flatMap.1 hu
  exact r.one (h3 p hp) u hu
theorem OwnS.made {α : Type} (r : Rdr α) (t : TypeId) (w : World) (S : Nat → Prop) (hS : ¬ S w.heap.size) : OwnS r t (w.alloc (.cells #[] t)) w.heap.size S (.slice (some ⟨w.heap.size, 0, none⟩) 0 0) [] :=
  ⟨[], rfl, World.ownsRow_made w #[] 0 (Nat.le_refl _) (by simp [maxLen]) (by simp), fun k hk => by simp only [Value.ownBlock, Option.map_some, Option.some.injEq] at hk; subst hk; exact hS, by simp⟩
theorem cells_put1 {α : Type} (gs : List (List Value × α)) (x : α) (u : Value) : (∀ p ∈ gs, p.1.length = 1) → ∀ i, i < gs.length → cellsOf (gs.set i ([u], x)) = (cellsOf gs).set i u := by
  induction gs with
  | nil => intro _ i hi; simp at hi
  | cons p gs ih =>
    intro h i hi
    have hp := h p (by simp)
    obtain ⟨l, y⟩ := p
    match l, hp with
    | [v], _ =>
      cases i with
      | zero => simp [cellsOf]
      | succ i =>
        have := ih (fun q hq => h q (by simp [hq])) i (by simpa using hi)
        simp only [cellsOf, List.set_cons_succ, List.flatMap_cons] at this ⊢
        rw [this]; rfl
theorem OwnS.set1 {α : Type} {r : Rdr α} {t : TypeId} {w : World} {base : Nat} {S : Nat → Prop} {g n cap : Nat} {xs : List α} (h : OwnS r t w base S (.slice (some ⟨g, 0, none⟩) n cap) xs) (h1 : r.size = 1) (i : Nat) (hi : i < xs.length) (u : Value) (y : α)
    (hc : r.rd w S [u] y) : OwnS r t (w.setCell ⟨g, i, none⟩ u) base S (.slice (some ⟨g, 0, none⟩) n cap) (xs.set i y) := by
  obtain ⟨gs, rfl, ⟨h1', h2⟩, h3, h4⟩ := h
  have hS : ¬ S g := h3 g rfl
  have hk := (Keep.refl S w).setCell (p := ⟨g, i, none⟩) hS u
  have hi' : i < gs.length := by simpa using hi
  have hlen : ∀ p ∈ gs, p.1.length = 1 := fun p hp => h1 ▸ r.len (h4 p hp)
  rcases h2 with ⟨h2, h2'⟩ | ⟨g', cap', cur, h2, hb, hg, hn, hm, hcs, hx⟩
  · rw [h2'] at hi'; exact absurd hi' (Nat.not_lt_zero _)
  · simp only [Value.slice.injEq, Option.some.injEq, Addr.mk.injEq] at h2
    obtain ⟨⟨rfl, -⟩, rfl, rfl⟩ := h2
    refine ⟨gs.set i ([u], y), ?_, ⟨?_, .inr ⟨g, cap, _, ?_, hb, set_blk hg u, ?_, hm, ?_, ?_⟩⟩, h3, fun p hp => ?_⟩
    · rw [List.map_set]
    · rw [cells_put1 gs _ u hlen i hi']; simpa using h1'
    · rw [List.length_set]
    · rw [List.length_set]; exact hn
    · simpa using hcs
    · rw [cells_put1 gs _ u hlen i hi', List.length_set]
      simp only [Array.toList_setIfInBounds, List.take_set]
      rw [hx]
    · rcases List.mem_or_eq_of_mem_set hp with hp | rfl
      · exact Rdr.kept (h4 p hp) hk
      · exact Rdr.kept hc hk
theorem rBo_free {w w' : World} {S S' : Nat → Prop} {cs : List Value} {b : Bool} (h : rBo.rd w S cs b) : rBo.rd w' S' cs b := h
theorem RdS.atB {w : World} {S : Nat → Prop} {v : Value} {xs : List Bool} (h : RdS rBo w S v xs) (i : Nat) (hi : i < xs.length) :
    ∃ g o cap, v = .slice (some ⟨g, o, none⟩) xs.length cap ∧ g < w.heap.size ∧ S g ∧ w.cell? ⟨g, o + i, none⟩ = some (.bool xs[i]) := by
  obtain ⟨g, o, cap, cs, rfl, hg, hS, _, hc, hr⟩ := h.at i hi
  obtain rfl : cs = [.bool xs[i]] := hr
  refine ⟨g, o, cap, rfl, hg, hS, ?_⟩
  have := hc 0 _ rfl
  simpa [rBo] using this

set_option maxRecDepth 100000 in
set_option maxHeartbeats 400000 in
theorem CloneB_any (w : World) (S : Nat → Prop) (v : Value) (fs : List Bool) (h : RdS rBo w S v fs) (hl : fs.length ≤ 1000000) :
    Calls Try.prog 55 #[v] w fun e w' => ∃ v', e = .returned v' ∧ OwnS rBo 4 w' w.heap.size (fun _ => False) v' fs ∧ Ext w w' := by
  have hnil := fun w => Lib.run_eql_slice_nil (P := Try.prog) w
  obtain ⟨a, cap, rfl, hc1, hc2⟩ := h.slice
  have H := hid h
  cases a with
  | none =>
    have h0 : fs = [] := by
      cases fs with
      | nil => rfl
      | cons f fs => obtain ⟨g, o, cap', cs, e, _⟩ := h.at 0 (by simp); simp at e
    subst h0
    clear h
    go_enter Try.func55, Try.ntmps55
    go_wp2_with fail
    go_ret
    exact ⟨_, rfl, OwnS.nil _ _ _ _ _, Ext.refl _⟩
  | some a =>
    obtain ⟨gs, hgs, hsrc, hall⟩ := (h.ext ((Ext.refl w).alloc (.cells #[] 4))).src Try.underlying36
    have HG := hid hgs
    have hgl : gs.length = fs.length := by rw [hgs, List.length_map]
    have HSRC := hid hsrc
    have HALL := hid hall
    have HGL := hid hgl
    have HA := OwnS.made rBo 4 w (fun _ => False) (fun h => h)
    clear h hgs hsrc hall hgl
    go_enter Try.func55, Try.ntmps55
    go_wp2_with (at_builtin; go_must (refine wl_appS rBo rfl _ _ _ _ _ _ 1 rfl Try.underlying36 infoBool rfl w.heap.size _ _ [] rfl HA _ gs rfl HSRC.out (fun p hp => rBo_free (HALL.out p hp)) (fun _ h => h.elim) (by rw [HGL.out]; simp; omega) (by rw [HGL.out]; simp; omega) (by simp) ?_; intro v' w' k1 k2 k3; rw [List.nil_append, ← HG.out] at k1))
    go_ret
    exact ⟨_, rfl, k1, ((Ext.refl w).alloc _).grown k2 (fun k hk => by cases hk; exact Nat.le_refl _)⟩

set_option maxRecDepth 100000 in
set_option maxHeartbeats 400000 in
theorem free_any (w : World) (bn bl : Nat) (vn vl : Value) (now last : List Bool) (S : Nat → Prop) (hn : w.cell? ⟨bn, 0, none⟩ = some vn) (hl : w.cell? ⟨bl, 0, none⟩ = some vl) (hrn : RdS rBo w S vn now) (hrl : RdS rBo w S vl last) (hlen : last.length = now.length) (n : Nat) (hnb : n ≤ 1000000) (hlb : now.length ≤ 1000000) :
    Calls Try.prog 57 #[.int .i64 n, .pointer (some ⟨bn, 0, none⟩), .pointer (some ⟨bl, 0, none⟩)] w fun e w' => e = .returned (.bool (freeAt now last n)) ∧ w = w' := by
  by_cases h : n < now.length
  · have hfr : freeAt now last n = (!now[n] && !(last[n]'(by omega))) := by
      unfold freeAt
      rw [List.getD_eq_getElem?_getD, List.getD_eq_getElem?_getD, List.getElem?_eq_getElem h, List.getElem?_eq_getElem (by omega : n < last.length)]
      rfl
    obtain ⟨g1, o1, c1, rfl, hg1, -, z1⟩ := hrn.atB n h
    obtain ⟨g2, o2, c2, rfl, hg2, -, z2⟩ := hrl.atB n (by omega)
    rw [hlen] at hl
    rw [hfr]
    generalize now[n] = p1 at z1 ⊢
    generalize last[n]'(by omega) = p2 at z2 ⊢
    have HRN := hid hrn
    have HRL := hid hrl
    clear hrn hrl hfr
    cases p1 <;> cases p2
    all_goals
      go_enter Try.func57, Try.ntmps57
      go_wp2_with fail
      go_ret
      exact ⟨rfl, rfl⟩
  · have hfr := freeAt_len (now := now) (last := last) (by omega : now.length ≤ n)
    obtain ⟨a1, c1, rfl, -, -⟩ := hrn.slice
    rw [hfr]
    clear hrn hrl hfr
    go_enter Try.func57, Try.ntmps57
    go_wp2_with fail
    go_ret
    exact ⟨rfl, rfl⟩
end Go.Proofs.Ytbpcgfplokkfpaa
