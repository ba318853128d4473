/- super: both, walked. -/
import Derived.Test.YtgbiffpnfpdcoaaSuA
namespace Go.Proofs.Ytgbiffpnfpdcoaa
open Go.RowKit Go.Maps
set_option linter.unusedVariables false
set_option linter.unusedSimpArgs false

theorem alloc_sz (w : World) (o : Obj) : (w.alloc o).heap.size = w.heap.size + 1 := by simp
/-- both slots, which is the newer, the error, the device behind it -/
structure Bo where
  s0 : Sl
  s1 : Sl
  newest : Int
  err : Int
  dev : Dv
def newF0 (s0 : Sl) : Int := if s0.ok = true then 0 else -1
def newF (s0 s1 : Sl) : Int := if s0.ok = true then (if (s1.ok && decide (s0.count < s1.count)) = true then 1 else 0) else if s1.ok = true then 1 else -1
theorem newF_same {s0 s1 : Sl} (h : ¬ newF s0 s1 = 1) : newF s0 s1 = newF0 s0 := by
  unfold newF newF0 at *
  split at h
  · rename_i h1
    rw [if_pos h1, if_pos h1]
    split at h
    · exact absurd rfl h
    · rename_i h2; rw [if_neg h2]
  · rename_i h1
    rw [if_neg h1, if_neg h1]
    split at h
    · exact absurd rfl h
    · rename_i h2; rw [if_neg h2]
def bothF (d : Dv) (n : Int) : Bo :=
  if (opF d n 0).1 ≠ 0 then ⟨sl0, sl0, -1, (opF d n 0).1, (opF d n 0).2⟩
  else if (opF (opF d n 0).2 (n + 1) 0).1 ≠ 0 then ⟨slF (curF d n), sl0, -1, (opF (opF d n 0).2 (n + 1) 0).1, (opF (opF d n 0).2 (n + 1) 0).2⟩
  else ⟨slF (curF d n), slF (curF (opF d n 0).2 (n + 1)), newF (slF (curF d n)) (slF (curF (opF d n 0).2 (n + 1))), 0, (opF (opF d n 0).2 (n + 1) 0).2⟩
def BoEnd (w : World) (g : Nat) (ρ : Nat → Option DRol) (N : Nat) (X : Bo) (e : Ending) (w' : World) : Prop :=
  ∃ v0 v1, e = .returned (.tuple #[.agg #[.bool X.s0.ok, .int .i64 X.s0.count, v0, .bool X.s1.ok, .int .i64 X.s1.count, v1], .int .i64 X.newest, .int .i64 X.err]) ∧ RdB w' v0 X.s0.data ∧ RdB w' v1 X.s1.data ∧ (∀ k, v0.ownBlock = some k → w.heap.size ≤ k) ∧ (∀ k, v1.ownBlock = some k → w.heap.size ≤ k) ∧ DvAt w' g ρ N X.dev ∧ Keep (fun k => k ≠ g) w w'

theorem RdB.slice' {w : World} {v : Value} {l : List UInt8} (h : RdB w v l) : ∃ a c, v = .slice a l.length c := by obtain ⟨a, c, e, _⟩ := h; exact ⟨a, c, e⟩

/-- where both stands -/
structure BoSt (w wr : World) (g : Nat) (ρ : Nat → Option DRol) (gR gS gN N : Nat) (d : Dv) (s0 : Sl) (v0 : Value) (s1 : Sl) (v1 : Value) (nw : Int) : Prop where
  rR : wr.heap[gR]? = some (.cells #[.bool false, .int .i64 0, .slice none 0 0, .bool false, .int .i64 0, .slice none 0 0] 96 (0, 0))
  rS : wr.heap[gS]? = some (.cells #[.bool s0.ok, .int .i64 s0.count, v0, .bool s1.ok, .int .i64 s1.count, v1] 96 (0, 0))
  rN : wr.heap[gN]? = some (.cells #[.int .i64 nw] 3 (0, 0))
  r0 : RdB wr v0 s0.data
  r1 : RdB wr v1 s1.data
  b0 : ∀ k, v0.ownBlock = some k → gN < k
  b1 : ∀ k, v1.ownBlock = some k → gN < k
  dv : DvAt wr g ρ N d
  kp : Keep (fun k => k ≠ g ∧ k < gR) w wr
  rl : ∀ k, ρ k ≠ none → k < gR
  gg : g < gR
  o1 : gS = gR + 1
  o2 : gN = gR + 2
  wR : w.heap.size ≤ gR
  lt : gR + 3 ≤ wr.heap.size
section
variable {w wr w' : World} {g : Nat} {ρ : Nat → Option DRol} {gR gS gN N N' : Nat} {d d' : Dv} {s0 s1 s : Sl} {v0 v1 v : Value} {nw : Int}
theorem BoSt.read (h : BoSt w wr g ρ gR gS gN N d s0 v0 s1 v1 nw) (hk : Keep (fun k => k ≠ g) wr w') (hd : DvAt w' g ρ N' d') : BoSt w w' g ρ gR gS gN N' d' s0 v0 s1 v1 nw where
  rR := (hk.block gR (by have := h.gg; omega) (by have := h.lt; omega)).trans h.rR
  rS := (hk.block gS (by have := h.gg; have := h.o1; omega) (by have := h.lt; have := h.o1; omega)).trans h.rS
  rN := (hk.block gN (by have := h.gg; have := h.o2; omega) (by have := h.lt; have := h.o2; omega)).trans h.rN
  r0 := Rd.carry h.r0 hk.size fun k hb hl => hk.block k (by have := h.b0 k hb; have := h.gg; have := h.o2; omega) hl
  r1 := Rd.carry h.r1 hk.size fun k hb hl => hk.block k (by have := h.b1 k hb; have := h.gg; have := h.o2; omega) hl
  b0 := h.b0
  b1 := h.b1
  dv := hd
  kp := h.kp.trans (hk.mono fun k hk _ => hk.1)
  rl := h.rl
  gg := h.gg
  o1 := h.o1
  o2 := h.o2
  wR := h.wR
  lt := Nat.le_trans h.lt hk.size
theorem BoSt.ext (h : BoSt w wr g ρ gR gS gN N d s0 v0 s1 v1 nw) (hx : Ext wr w') : BoSt w w' g ρ gR gS gN N d s0 v0 s1 v1 nw := h.read (hx.keep _) (h.dv.ext hx)
theorem BoSt.mono (h : BoSt w wr g ρ gR gS gN N d s0 v0 s1 v1 nw) (hn : N ≤ N') : BoSt w wr g ρ gR gS gN N' d s0 v0 s1 v1 nw := { h with dv := h.dv.mono hn }
/-- another row at gS -/
theorem BoSt.putS (h : BoSt w wr g ρ gR gS gN N d s0 v0 s1 v1 nw) (hk : Keep (fun k => k ≠ gS) wr w') {s0' s1' : Sl} {v0' v1' : Value} (hr : w'.heap[gS]? = some (.cells #[.bool s0'.ok, .int .i64 s0'.count, v0', .bool s1'.ok, .int .i64 s1'.count, v1'] 96 (0, 0)))
    (hr0 : RdB wr v0' s0'.data) (hr1 : RdB wr v1' s1'.data) (hb0 : ∀ k, v0'.ownBlock = some k → gN < k) (hb1 : ∀ k, v1'.ownBlock = some k → gN < k) : BoSt w w' g ρ gR gS gN N d s0' v0' s1' v1' nw where
  rR := (hk.block gR (by have := h.o1; omega) (by have := h.lt; omega)).trans h.rR
  rS := hr
  rN := (hk.block gN (by have := h.o1; have := h.o2; omega) (by have := h.lt; have := h.o2; omega)).trans h.rN
  r0 := Rd.carry hr0 hk.size fun k hb hl => hk.block k (by have := hb0 k hb; have := h.o1; have := h.o2; omega) hl
  r1 := Rd.carry hr1 hk.size fun k hb hl => hk.block k (by have := hb1 k hb; have := h.o1; have := h.o2; omega) hl
  b0 := hb0
  b1 := hb1
  dv := h.dv.keep (hk.mono fun k hk _ e => by have := h.rl k hk; have := h.o1; omega)
  kp := h.kp.trans (hk.mono fun k hk _ e => by have := h.o1; omega)
  rl := h.rl
  gg := h.gg
  o1 := h.o1
  o2 := h.o2
  wR := h.wR
  lt := Nat.le_trans h.lt hk.size
/-- another number at gN -/
theorem BoSt.putN (h : BoSt w wr g ρ gR gS gN N d s0 v0 s1 v1 nw) (m : Int) : BoSt w (wr.setCell ⟨gN, 0, none⟩ (.int .i64 m)) g ρ gR gS gN N d s0 v0 s1 v1 m := by
  have hk : Keep (fun k => k ≠ gN) wr (wr.setCell ⟨gN, 0, none⟩ (.int .i64 m)) := (Keep.refl _ _).setCell (by simp) _
  exact {
    rR := (hk.block gR (by have := h.o2; omega) (by have := h.lt; omega)).trans h.rR
    rS := (hk.block gS (by have := h.o1; have := h.o2; omega) (by have := h.lt; have := h.o1; omega)).trans h.rS
    rN := (blk_set (o := 0) h.rN (.int .i64 m)).trans rfl
    r0 := Rd.carry h.r0 hk.size fun k hb hl => hk.block k (by have := h.b0 k hb; omega) hl
    r1 := Rd.carry h.r1 hk.size fun k hb hl => hk.block k (by have := h.b1 k hb; omega) hl
    b0 := h.b0
    b1 := h.b1
    dv := h.dv.keep (hk.mono fun k hk _ e => by have := h.rl k hk; have := h.o2; omega)
    kp := h.kp.trans (hk.mono fun k hk _ e => by have := h.o2; omega)
    rl := h.rl
    gg := h.gg
    o1 := h.o1
    o2 := h.o2
    wR := h.wR
    lt := Nat.le_trans h.lt hk.size }
end
def set6 (w : World) (g : Nat) (x0 x1 x2 x3 x4 x5 : Value) : World := (((((w.setCell ⟨g, 0, none⟩ x0).setCell ⟨g, 1, none⟩ x1).setCell ⟨g, 2, none⟩ x2).setCell ⟨g, 3, none⟩ x3).setCell ⟨g, 4, none⟩ x4).setCell ⟨g, 5, none⟩ x5
theorem set6_row {w : World} {g : Nat} {y0 y1 y2 y3 y4 y5 : Value} {t : TypeId} (h : w.heap[g]? = some (.cells #[y0, y1, y2, y3, y4, y5] t (0, 0))) (x0 x1 x2 x3 x4 x5 : Value) :
    (set6 w g x0 x1 x2 x3 x4 x5).heap[g]? = some (.cells #[x0, x1, x2, x3, x4, x5] t (0, 0)) :=
  (blk_set (o := 5) (blk_set (o := 4) (blk_set (o := 3) (blk_set (o := 2) (blk_set (o := 1) (blk_set (o := 0) h x0) x1) x2) x3) x4) x5).trans rfl
theorem set6_keep (w : World) (g : Nat) (x0 x1 x2 x3 x4 x5 : Value) : Keep (fun k => k ≠ g) w (set6 w g x0 x1 x2 x3 x4 x5) :=
  ((((((Keep.refl _ w).setCell (by simp) _).setCell (by simp) _).setCell (by simp) _).setCell (by simp) _).setCell (by simp) _).setCell (by simp) _
theorem row6 {w : World} {g : Nat} {x0 x1 x2 x3 x4 x5 : Value} {t : TypeId} (h : w.heap[g]? = some (.cells #[x0, x1, x2, x3, x4, x5] t (0, 0))) :
    w.cell? ⟨g, 0, none⟩ = some x0 ∧ w.cell? ⟨g, 1, none⟩ = some x1 ∧ w.cell? ⟨g, 2, none⟩ = some x2 ∧ w.cell? ⟨g, 3, none⟩ = some x3 ∧ w.cell? ⟨g, 4, none⟩ = some x4 ∧ w.cell? ⟨g, 5, none⟩ = some x5 :=
  ⟨(cell_of_row _ _ _ _ _ _ h).trans rfl, (cell_of_row _ _ _ _ _ _ h).trans rfl, (cell_of_row _ _ _ _ _ _ h).trans rfl, (cell_of_row _ _ _ _ _ _ h).trans rfl, (cell_of_row _ _ _ _ _ _ h).trans rfl, (cell_of_row _ _ _ _ _ _ h).trans rfl⟩
theorem BoEnd.ext {w w' w'' : World} {g : Nat} {ρ : Nat → Option DRol} {N : Nat} {X : Bo} {e : Ending} (h : BoEnd w g ρ N X e w') (hx : Ext w' w'') : BoEnd w g ρ N X e w'' := by
  obtain ⟨v0, v1, h1, h2, h3, h4, h5, h6, h7⟩ := h
  exact ⟨v0, v1, h1, h2.ext hx, h3.ext hx, h4, h5, h6.ext hx, h7.trans (hx.keep _)⟩
theorem set3_keep (w : World) (g a b c : Nat) (x0 x1 x2 : Value) : Keep (fun k => k ≠ g) w (((w.setCell ⟨g, a, none⟩ x0).setCell ⟨g, b, none⟩ x1).setCell ⟨g, c, none⟩ x2) :=
  (((Keep.refl _ w).setCell (by simp) _).setCell (by simp) _).setCell (by simp) _
theorem bo_fin {w wr : World} {g : Nat} {ρ : Nat → Option DRol} {gR gS gN N : Nat} {X : Bo} {v0 v1 : Value} {nw : Int} (h : BoSt w wr g ρ gR gS gN N X.dev X.s0 v0 X.s1 v1 nw) (x0 x1 x2 x3 x4 x5 : Value) (hw : w.heap.size = gR) :
    BoEnd w g ρ N X (.returned (.tuple #[.agg #[.bool X.s0.ok, .int .i64 X.s0.count, v0, .bool X.s1.ok, .int .i64 X.s1.count, v1], .int .i64 X.newest, .int .i64 X.err])) (set6 wr gR x0 x1 x2 x3 x4 x5) := by
  have hk := set6_keep wr gR x0 x1 x2 x3 x4 x5
  refine ⟨v0, v1, rfl, Rd.carry h.r0 hk.size fun k hb hl => hk.block k (by have := h.b0 k hb; have := h.o2; omega) hl, Rd.carry h.r1 hk.size fun k hb hl => hk.block k (by have := h.b1 k hb; have := h.o2; omega) hl,
    fun k hb => by have := h.b0 k hb; have := h.o2; omega, fun k hb => by have := h.b1 k hb; have := h.o2; omega, h.dv.keep (hk.mono fun k hk _ e => by have := h.rl k hk; omega), ?_⟩
  exact (h.kp.trans (hk.mono fun k hk _ e => by omega)).mono fun k hk hl => ⟨hk, by omega⟩
set_option maxRecDepth 100000 in
set_option maxHeartbeats 2000000 in
/-- the test of 'both', where the newest so far is that of s0 -/
theorem newer_c (w : World) (gS gN : Nat) (s0 s1 : Sl) (h0 : w.cell? ⟨gS, 3, none⟩ = some (.bool s1.ok)) (h1 : w.cell? ⟨gS, 4, none⟩ = some (.int .i64 s1.count)) (h2 : w.cell? ⟨gS, 1, none⟩ = some (.int .i64 s0.count)) (hN : w.cell? ⟨gN, 0, none⟩ = some (.int .i64 (newF0 s0))) :
    Calls Try.prog 80 #[.int .i64 1, .pointer (some ⟨gS, 0, none⟩), .pointer (some ⟨gN, 0, none⟩)] w fun e w' => e = .returned (.bool (decide (newF s0 s1 = 1))) ∧ Ext w w' := by
  cases hs : s0.ok
  · have e1 : newF0 s0 = -1 := by unfold newF0; rw [if_neg (by rw [hs]; simp)]
    rw [e1] at hN
    refine (newer_a w gS gN 1 (.inr rfl) s1.ok (by simpa using h0) hN).mono ?_
    rintro e w' ⟨rfl, hx⟩
    refine ⟨ret_boolS ?_, hx⟩
    unfold newF
    rw [hs, if_neg (by simp)]
    cases s1.ok <;> simp
  · have e1 : newF0 s0 = 0 := by unfold newF0; rw [if_pos hs]
    rw [e1] at hN
    refine (newer_b w gS gN s1.ok s0.count s1.count h0 h1 h2 hN).mono ?_
    rintro e w' ⟨rfl, hx⟩
    refine ⟨ret_boolS ?_, hx⟩
    unfold newF
    rw [if_pos hs]
    cases hh : (s1.ok && decide (s0.count < s1.count)) <;> simp

set_option maxRecDepth 100000 in
set_option maxHeartbeats 2000000 in
theorem both_any (w : World) (g : Nat) (ρ : Nat → Option DRol) (N : Nat) (d : Dv) (h : DvAt w g ρ N d) (hN : N ≤ 999999999) (n : Int) (hn : 0 ≤ n ∧ n ≤ 1000) :
    Calls Try.prog 54 #[.pointer (some ⟨g, 0, none⟩), .int .i64 n] w (BoEnd w g ρ (N + 2) (bothF d n)) := by
  have hgw : g < w.heap.size := by obtain ⟨_, _, _, h⟩ := h; exact h.glt
  have HRL := hid (fun k (hk : ρ k ≠ none) => h.rlt k hk)
  have H := hid h
  obtain ⟨hn1, hn2⟩ := hn
  clear h
  go_enter Try.func54, Try.ntmps54
  go_wp2_with fail
  obtain ⟨wl, hwl⟩ : ∃ wl, wl = ((w.alloc (.cells #[.bool false, .int .i64 0, .slice none 0 0, .bool false, .int .i64 0, .slice none 0 0] 96)).alloc (.cells #[.bool false, .int .i64 0, .slice none 0 0, .bool false, .int .i64 0, .slice none 0 0] 96)).alloc (.cells #[.int .i64 (-1)] 3) := ⟨_, rfl⟩
  rw [← hwl]
  have hxl : Ext w wl := by rw [hwl]; (· repeat (first | (with_reducible assumption) | exact Ext.refl _ | refine Ext.alloc ?_ _ | refine Ext.drew ?_ | refine Ext.drewN ?_ _ | (apply Ext.snart; (with_reducible assumption))))
  have hsl : wl.heap.size = w.heap.size + 3 := by rw [hwl]; simp
  have hrR : wl.heap[w.heap.size]? = some (.cells #[.bool false, .int .i64 0, .slice none 0 0, .bool false, .int .i64 0, .slice none 0 0] 96 (0, 0)) := by
    rw [hwl]
    exact (Below.block (show Ext (w.alloc (.cells #[.bool false, .int .i64 0, .slice none 0 0, .bool false, .int .i64 0, .slice none 0 0] 96)) _ by (· repeat (first | (with_reducible assumption) | exact Ext.refl _ | refine Ext.alloc ?_ _ | refine Ext.drew ?_ | refine Ext.drewN ?_ _ | (apply Ext.snart; (with_reducible assumption))))) _ (by simp)).trans (heap_alloc_new _ _)
  have hrS : wl.heap[w.heap.size + 1]? = some (.cells #[.bool false, .int .i64 0, .slice none 0 0, .bool false, .int .i64 0, .slice none 0 0] 96 (0, 0)) := by
    rw [hwl]
    refine (Below.block (show Ext ((w.alloc (.cells #[.bool false, .int .i64 0, .slice none 0 0, .bool false, .int .i64 0, .slice none 0 0] 96)).alloc (.cells #[.bool false, .int .i64 0, .slice none 0 0, .bool false, .int .i64 0, .slice none 0 0] 96)) _ by (· repeat (first | (with_reducible assumption) | exact Ext.refl _ | refine Ext.alloc ?_ _ | refine Ext.drew ?_ | refine Ext.drewN ?_ _ | (apply Ext.snart; (with_reducible assumption))))) _ (by simp)).trans ?_
    have := heap_alloc_new (w.alloc (.cells #[.bool false, .int .i64 0, .slice none 0 0, .bool false, .int .i64 0, .slice none 0 0] 96)) (.cells #[.bool false, .int .i64 0, .slice none 0 0, .bool false, .int .i64 0, .slice none 0 0] 96)
    rwa [alloc_sz] at this
  have hrN : wl.heap[w.heap.size + 1 + 1]? = some (.cells #[.int .i64 (-1)] 3 (0, 0)) := by
    rw [hwl]
    have := heap_alloc_new ((w.alloc (.cells #[.bool false, .int .i64 0, .slice none 0 0, .bool false, .int .i64 0, .slice none 0 0] 96)).alloc (.cells #[.bool false, .int .i64 0, .slice none 0 0, .bool false, .int .i64 0, .slice none 0 0] 96)) (.cells #[.int .i64 (-1)] 3)
    rwa [alloc_sz, alloc_sz] at this
  clear hwl
  obtain ⟨gR, hgR⟩ : ∃ gR, gR = w.heap.size := ⟨_, rfl⟩
  obtain ⟨gS, hgS⟩ : ∃ gS, gS = w.heap.size + 1 := ⟨_, rfl⟩
  obtain ⟨gN, hgN⟩ : ∃ gN, gN = w.heap.size + 1 + 1 := ⟨_, rfl⟩
  rw [← hgN] at hrN ⊢
  rw [← hgS] at hrS ⊢
  rw [← hgR] at hrR ⊢
  have hgl : ∀ k, ρ k ≠ none → k < gR := fun k hk => by rw [hgR]; exact HRL.out k hk
  have hwR : w.heap.size ≤ gR := by omega
  have hwS : gS = gR + 1 := by omega
  have hwN : gN = gR + 2 := by omega
  have hlS : wl.heap.size = gR + 3 := by omega
  have hgg : g < gR := by omega
  have HST := hid (show BoSt w wl g ρ gR gS gN N d sl0 (.slice none 0 0) sl0 (.slice none 0 0) (-1) from ⟨hrR, hrS, hrN, RdB.nil _, RdB.nil _, by simp [Value.ownBlock], by simp [Value.ownBlock], H.out.ext hxl, hxl.keep _, hgl, hgg, hwS, hwN, hwR, by omega⟩)
  have HGR := hid hgR
  clear hxl hgR hgS hgN hsl hgl hrR hrS hrN hlS HRL hwS hwN hwR
  have HE0 := hid (fun (h : (opF d n 0).1 ≠ 0) => (show bothF d n = ⟨sl0, sl0, -1, (opF d n 0).1, (opF d n 0).2⟩ by unfold bothF; rw [if_pos h]))
  have HE1 := hid (fun (h : (opF d n 0).1 = 0) (h' : (opF (opF d n 0).2 (n + 1) 0).1 ≠ 0) => (show bothF d n = ⟨slF (curF d n), sl0, -1, (opF (opF d n 0).2 (n + 1) 0).1, (opF (opF d n 0).2 (n + 1) 0).2⟩ by unfold bothF; rw [if_neg (by simpa using h), if_pos h']))
  have HE2 := hid (fun (h : (opF d n 0).1 = 0) (h' : (opF (opF d n 0).2 (n + 1) 0).1 = 0) => (show bothF d n = ⟨slF (curF d n), slF (curF (opF d n 0).2 (n + 1)), newF (slF (curF d n)) (slF (curF (opF d n 0).2 (n + 1))), 0, (opF (opF d n 0).2 (n + 1) 0).2⟩ by unfold bothF; rw [if_neg (by simpa using h), if_neg (by simpa using h')]))
  generalize hX0 : opF d n 0 = X0 at HE0 HE1 HE2
  generalize hX1 : opF X0.2 (n + 1) 0 = X1 at HE1 HE2
  generalize hA0 : slF (curF d n) = A0 at HE1 HE2
  generalize hA1 : slF (curF X0.2 (n + 1)) = A1 at HE2
  have HX0 := hid hX0
  have HX1 := hid hX1
  have HA0 := hid hA0
  have HA1 := hid hA1
  clear hX0 hX1 hA0 hA1
  obtain ⟨x0, d0⟩ := X0
  obtain ⟨x1, d1⟩ := X1
  dsimp only at HE0 HE1 HE2 HX1 HA1
  go_loopw [14] (fun u14 wr => u14 = .int .i64 0 ∧ BoSt w wr g ρ gR gS gN N d sl0 (.slice none 0 0) sl0 (.slice none 0 0) (-1) ∨
      u14 = .int .i64 1 ∧ x0 = 0 ∧ (∃ v0, BoSt w wr g ρ gR gS gN (N + 1) d0 A0 v0 sl0 (.slice none 0 0) (newF0 A0)) ∨
      u14 = .int .i64 2 ∧ x0 = 0 ∧ x1 = 0 ∧ ∃ v0 v1, BoSt w wr g ρ gR gS gN (N + 2) d1 A0 v0 A1 v1 (newF A0 A1))
    (fun u14 _ => 2 - (intOf u14).toNat)
  case atStart => exact .inl ⟨rfl, HST.out⟩
  case round =>
    rcases hrel with ⟨rfl, hst⟩ | ⟨rfl, hx0, v0, hst⟩ | ⟨rfl, hx0, hx1, v0, v1, hst⟩
    · have HST := hid hst
      clear hst
      go_wp2_with fail
      refine (sread_any wr g ρ N d HST.out.dv (by omega) n (by omega)).mono ?_
      rintro e w1 ⟨s0, v0, hs0, rfl, hrd0, hvb0, hd1, hk1⟩
      rw [HX0.out] at hs0 hd1 ⊢
      dsimp only at hs0 hd1 ⊢
      obtain ⟨a0, c0, rfl⟩ := hrd0.slice'
      have hst1 := HST.out.read hk1 hd1
      have hvb : ∀ k, (Value.slice a0 s0.data.length c0).ownBlock = some k → gN < k := fun k hk => by have := hvb0 k hk; have := HST.out.lt; have := HST.out.o2; omega
      have HVB := hid hvb
      have HS0 := hid hs0
      clear hs0
      go_upto_region 8 with fail
      obtain ⟨wx, hwx⟩ : ∃ wx, wx = w1.alloc (.cells #[.bool s0.ok, .int .i64 s0.count, .slice a0 s0.data.length c0] 95) := ⟨_, rfl⟩
      rw [← hwx]
      have hxx : Ext w1 wx := by rw [hwx]; exact (Ext.refl _).alloc _
      have hrx : wx.heap[w1.heap.size]? = some (.cells #[.bool s0.ok, .int .i64 s0.count, .slice a0 s0.data.length c0] 95 (0, 0)) := by rw [hwx]; exact heap_alloc_new _ _
      have hst2 := hst1.ext hxx
      obtain ⟨gX, hgX⟩ : ∃ gX, gX = w1.heap.size := ⟨_, rfl⟩
      rw [← hgX] at hrx ⊢
      have p0 : wx.cell? ⟨gX, 0, none⟩ = some (.bool s0.ok) := (cell_of_row _ _ _ _ _ _ hrx).trans rfl
      have p1 : wx.cell? ⟨gX, 1, none⟩ = some (.int .i64 s0.count) := (cell_of_row _ _ _ _ _ _ hrx).trans rfl
      have p2 : wx.cell? ⟨gX, 2, none⟩ = some (.slice a0 s0.data.length c0) := (cell_of_row _ _ _ _ _ _ hrx).trans rfl
      have hXS : ¬ gX = gS := by have := hst1.lt; have := hst1.o1; omega
      have hXS' : ¬ gS = gX := fun e => hXS e.symm
      have HST2 := hid hst2
      have HRD0 := hid (RdB.ext hrd0 hxx)
      clear hwx hxx hrx hgX hst1 hst2 hk1 hd1 hrd0 hvb0 hvb
      by_cases hx : x0 = 0
      · have hs0 := HS0.out
        rw [if_pos hx, HA0.out] at hs0
        have HSA := hid hs0
        clear hs0
        subst hx
        obtain ⟨z0, z1, z2, z3, z4, z5⟩ := row6 HST2.out.rS
        have y0 := blk_fro HST2.out.rS 0
        have y1 := blk_fro HST2.out.rS 1
        have y2 := blk_fro HST2.out.rS 2
        go_upto_region 11 with fail
        obtain ⟨wy, hwy⟩ : ∃ wy, wy = ((wx.setCell ⟨gS, 0, none⟩ (.bool s0.ok)).setCell ⟨gS, 1, none⟩ (.int .i64 s0.count)).setCell ⟨gS, 2, none⟩ (.slice a0 s0.data.length c0) := ⟨_, rfl⟩
        have hky : Keep (fun k => k ≠ gS) wx wy := by rw [hwy]; exact set3_keep _ _ _ _ _ _ _ _
        have hry : wy.heap[gS]? = some (.cells #[.bool s0.ok, .int .i64 s0.count, .slice a0 s0.data.length c0, .bool sl0.ok, .int .i64 sl0.count, .slice none 0 0] 96 (0, 0)) := by
          rw [hwy]
          exact (blk_set (o := 2) (blk_set (o := 1) (blk_set (o := 0) HST2.out.rS (.bool s0.ok)) (.int .i64 s0.count)) (.slice a0 s0.data.length c0)).trans rfl
        have hst3 := HST2.out.putS hky hry HRD0.out (RdB.nil _) HVB.out (by simp [Value.ownBlock])
        rw [← hwy]
        have HST3 := hid hst3
        clear hwy hky hry hst3 z0 z1 z2 z3 z4 z5 y0 y1 y2 p0 p1 p2 HST2
        go_wp2_with fail
        refine (newer_a wy gS gN 0 (.inl rfl) s0.ok ?_ ?_).mono ?_
        · exact (cell_of_row _ _ _ _ _ _ HST3.out.rS).trans rfl
        · exact (cell_of_row _ _ _ _ _ _ HST3.out.rN).trans rfl
        rintro e w3 ⟨rfl, hx3⟩
        have hst4 := HST3.out.ext hx3
        have n0 : w3.cell? ⟨gN, 0, none⟩ = some (.int .i64 (-1)) := (cell_of_row _ _ _ _ _ _ hst4.rN).trans rfl
        have n1 := blk_fro hst4.rN 0
        have HST4 := hid hst4
        clear hst4 hx3
        have hnw : newF0 A0 = if s0.ok = true then 0 else -1 := by unfold newF0; rw [← HSA.out]
        rw [HSA.out] at HST4
        rw [HSA.out] at hnw
        cases hok : s0.ok
        · have hok' : A0.ok = false := by rw [← HSA.out]; exact hok
          rw [hok', if_neg (by simp)] at hnw
          have HNW := hid hnw
          clear hnw hok hok'
          go_wp2_with fail
          go_roundw
          case rel => exact .inr (.inl ⟨rfl, trivial, _, by rw [HNW.out]; exact HST4.out⟩)
          case measure => simp [intOf]
        · have hok' : A0.ok = true := by rw [← HSA.out]; exact hok
          rw [hok', if_pos rfl] at hnw
          have HNW := hid hnw
          clear hnw hok hok'
          go_wp2_with fail
          go_roundw
          case rel => exact .inr (.inl ⟨rfl, trivial, _, by rw [HNW.out]; exact HST4.out.putN 0⟩)
          case measure => simp [intOf]
      · have hs0 := HS0.out
        clear hs0
        have hrS : wx.heap[gS]? = some (.cells #[.bool false, .int .i64 0, .slice none 0 0, .bool false, .int .i64 0, .slice none 0 0] 96 (0, 0)) := HST2.out.rS
        obtain ⟨z0, z1, z2, z3, z4, z5⟩ := row6 hrS
        obtain ⟨t0, t1, t2, t3, t4, t5⟩ := row6 HST2.out.rR
        have y0 := blk_fro HST2.out.rR 0
        have y1 := blk_fro HST2.out.rR 1
        have y2 := blk_fro HST2.out.rR 2
        have y3 := blk_fro HST2.out.rR 3
        have y4 := blk_fro HST2.out.rR 4
        have y5 := blk_fro HST2.out.rR 5
        clear hrS
        go_wp2_with fail
        have hr := set6_row HST2.out.rR (.bool false) (.int .i64 0) (.slice none 0 0) (.bool false) (.int .i64 0) (.slice none 0 0)
        unfold set6 at hr
        obtain ⟨q0, q1, q2, q3, q4, q5⟩ := row6 hr
        refine bodyPost_ret (v := .tuple #[.agg #[.bool false, .int .i64 0, .slice none 0 0, .bool false, .int .i64 0, .slice none 0 0], .int .i64 (-1), .int .i64 x0]) (by simp [results, Try.results54, go_sem, q0, q1, q2, q3, q4, q5]) rfl ?_
        have hf := bo_fin (X := ⟨sl0, sl0, -1, x0, d0⟩) (HST2.out.mono (N' := N + 2) (by omega)) (.bool false) (.int .i64 0) (.slice none 0 0) (.bool false) (.int .i64 0) (.slice none 0 0) HGR.out.symm
        rw [HE0.out hx]
        exact hf
    · obtain ⟨va, vc, rfl⟩ := hst.r0.slice'
      have HST := hid hst
      have HX00 := hid hx0
      clear hst hx0
      go_wp2_with fail
      refine (sread_any wr g ρ (N + 1) d0 HST.out.dv (by omega) (n + 1) (by omega)).mono ?_
      rintro e w1 ⟨s1, v1, hs0, rfl, hrd0, hvb0, hd1, hk1⟩
      rw [HX1.out] at hs0 hd1 ⊢
      dsimp only at hs0 hd1 ⊢
      obtain ⟨b1, e1, rfl⟩ := hrd0.slice'
      have hst1 := HST.out.read hk1 hd1
      have hvb : ∀ k, (Value.slice b1 s1.data.length e1).ownBlock = some k → gN < k := fun k hk => by have := hvb0 k hk; have := HST.out.lt; have := HST.out.o2; omega
      have HVB := hid hvb
      have HS0 := hid hs0
      clear hs0
      go_upto_region 8 with fail
      obtain ⟨wx, hwx⟩ : ∃ wx, wx = w1.alloc (.cells #[.bool s1.ok, .int .i64 s1.count, .slice b1 s1.data.length e1] 95) := ⟨_, rfl⟩
      rw [← hwx]
      have hxx : Ext w1 wx := by rw [hwx]; exact (Ext.refl _).alloc _
      have hrx : wx.heap[w1.heap.size]? = some (.cells #[.bool s1.ok, .int .i64 s1.count, .slice b1 s1.data.length e1] 95 (0, 0)) := by rw [hwx]; exact heap_alloc_new _ _
      have hst2 := hst1.ext hxx
      obtain ⟨gX, hgX⟩ : ∃ gX, gX = w1.heap.size := ⟨_, rfl⟩
      rw [← hgX] at hrx ⊢
      have p0 : wx.cell? ⟨gX, 0, none⟩ = some (.bool s1.ok) := (cell_of_row _ _ _ _ _ _ hrx).trans rfl
      have p1 : wx.cell? ⟨gX, 1, none⟩ = some (.int .i64 s1.count) := (cell_of_row _ _ _ _ _ _ hrx).trans rfl
      have p2 : wx.cell? ⟨gX, 2, none⟩ = some (.slice b1 s1.data.length e1) := (cell_of_row _ _ _ _ _ _ hrx).trans rfl
      have hXS : ¬ gX = gS := by have := hst1.lt; have := hst1.o1; omega
      have hXS' : ¬ gS = gX := fun e => hXS e.symm
      have HST2 := hid hst2
      have HRD0 := hid (RdB.ext hrd0 hxx)
      clear hwx hxx hrx hgX hst1 hst2 hk1 hd1 hrd0 hvb0 hvb
      by_cases hx : x1 = 0
      · have hs0 := HS0.out
        rw [if_pos hx, HA1.out] at hs0
        have HSA := hid hs0
        clear hs0
        subst hx
        obtain ⟨z0, z1, z2, z3, z4, z5⟩ := row6 HST2.out.rS
        have y0 := blk_fro HST2.out.rS 3
        have y1 := blk_fro HST2.out.rS 4
        have y2 := blk_fro HST2.out.rS 5
        go_upto_region 11 with fail
        obtain ⟨wy, hwy⟩ : ∃ wy, wy = ((wx.setCell ⟨gS, 3, none⟩ (.bool s1.ok)).setCell ⟨gS, 4, none⟩ (.int .i64 s1.count)).setCell ⟨gS, 5, none⟩ (.slice b1 s1.data.length e1) := ⟨_, rfl⟩
        have hky : Keep (fun k => k ≠ gS) wx wy := by rw [hwy]; exact set3_keep _ _ _ _ _ _ _ _
        have hry : wy.heap[gS]? = some (.cells #[.bool A0.ok, .int .i64 A0.count, .slice va A0.data.length vc, .bool s1.ok, .int .i64 s1.count, .slice b1 s1.data.length e1] 96 (0, 0)) := by
          rw [hwy]
          exact (blk_set (o := 5) (blk_set (o := 4) (blk_set (o := 3) HST2.out.rS (.bool s1.ok)) (.int .i64 s1.count)) (.slice b1 s1.data.length e1)).trans rfl
        have hst3 := HST2.out.putS hky hry HST2.out.r0 HRD0.out HST2.out.b0 HVB.out
        rw [← hwy]
        have HST3 := hid hst3
        clear hwy hky hry hst3 z0 z1 z2 z3 z4 z5 y0 y1 y2 p0 p1 p2 HST2
        go_wp2_with fail
        refine (newer_c wy gS gN A0 s1 ?_ ?_ ?_ ?_).mono ?_
        · exact (cell_of_row _ _ _ _ _ _ HST3.out.rS).trans rfl
        · exact (cell_of_row _ _ _ _ _ _ HST3.out.rS).trans rfl
        · exact (cell_of_row _ _ _ _ _ _ HST3.out.rS).trans rfl
        · exact (cell_of_row _ _ _ _ _ _ HST3.out.rN).trans rfl
        rintro e w3 ⟨rfl, hx3⟩
        have hst4 := HST3.out.ext hx3
        have n0 : w3.cell? ⟨gN, 0, none⟩ = some (.int .i64 (newF0 A0)) := (cell_of_row _ _ _ _ _ _ hst4.rN).trans rfl
        have n1 := blk_fro hst4.rN 0
        have HST4 := hid hst4
        clear hst4 hx3
        rw [HSA.out] at HST4 ⊢
        by_cases hnw : newF A0 A1 = 1
        · have HNW := hid hnw
          rw [decide_eq_true hnw]
          clear hnw
          go_wp2_with fail
          go_roundw
          case rel => exact .inr (.inr ⟨rfl, HX00.out, trivial, _, _, by rw [HNW.out]; exact HST4.out.putN 1⟩)
          case measure => simp [intOf]
        · have HNW := hid (newF_same hnw)
          rw [decide_eq_false hnw]
          clear hnw
          go_wp2_with fail
          go_roundw
          case rel => exact .inr (.inr ⟨rfl, HX00.out, trivial, _, _, by rw [HNW.out]; exact HST4.out⟩)
          case measure => simp [intOf]
      · have hs0 := HS0.out
        clear hs0
        have hrS : wx.heap[gS]? = some (.cells #[.bool A0.ok, .int .i64 A0.count, .slice va A0.data.length vc, .bool false, .int .i64 0, .slice none 0 0] 96 (0, 0)) := HST2.out.rS
        obtain ⟨z0, z1, z2, z3, z4, z5⟩ := row6 hrS
        obtain ⟨t0, t1, t2, t3, t4, t5⟩ := row6 HST2.out.rR
        have y0 := blk_fro HST2.out.rR 0
        have y1 := blk_fro HST2.out.rR 1
        have y2 := blk_fro HST2.out.rR 2
        have y3 := blk_fro HST2.out.rR 3
        have y4 := blk_fro HST2.out.rR 4
        have y5 := blk_fro HST2.out.rR 5
        clear hrS
        go_wp2_with fail
        have hr := set6_row HST2.out.rR (.bool A0.ok) (.int .i64 A0.count) (.slice va A0.data.length vc) (.bool false) (.int .i64 0) (.slice none 0 0)
        unfold set6 at hr
        obtain ⟨q0, q1, q2, q3, q4, q5⟩ := row6 hr
        refine bodyPost_ret (v := .tuple #[.agg #[.bool A0.ok, .int .i64 A0.count, .slice va A0.data.length vc, .bool false, .int .i64 0, .slice none 0 0], .int .i64 (-1), .int .i64 x1]) (by simp [results, Try.results54, go_sem, q0, q1, q2, q3, q4, q5]) rfl ?_
        have hf := bo_fin (X := ⟨A0, sl0, -1, x1, d1⟩) (HST2.out.mono (N' := N + 2) (by omega)) (.bool A0.ok) (.int .i64 A0.count) (.slice va A0.data.length vc) (.bool false) (.int .i64 0) (.slice none 0 0) HGR.out.symm
        rw [HE1.out HX00.out hx]
        exact hf
    · obtain ⟨va, vc, rfl⟩ := hst.r0.slice'
      obtain ⟨vb, vd, rfl⟩ := hst.r1.slice'
      have HST := hid hst
      have HXA := hid hx0
      have HXB := hid hx1
      obtain ⟨z0, z1, z2, z3, z4, z5⟩ := row6 hst.rS
      obtain ⟨t0, t1, t2, t3, t4, t5⟩ := row6 hst.rR
      have nn : wr.cell? ⟨gN, 0, none⟩ = some (.int .i64 (newF A0 A1)) := (cell_of_row _ _ _ _ _ _ hst.rN).trans rfl
      have y0 := blk_fro hst.rR 0
      have y1 := blk_fro hst.rR 1
      have y2 := blk_fro hst.rR 2
      have y3 := blk_fro hst.rR 3
      have y4 := blk_fro hst.rR 4
      have y5 := blk_fro hst.rR 5
      have hNR : ¬ gN = gR := by have := hst.o2; omega
      have hRN : ¬ gR = gN := fun e => hNR e.symm
      have hSR : ¬ gS = gR := by have := hst.o1; omega
      have hRS : ¬ gR = gS := fun e => hSR e.symm
      clear hst hx0 hx1
      go_wp2_with fail
      go_region
      all_goals
        go_wp2_with fail
        have hr := set6_row HST.out.rR (.bool A0.ok) (.int .i64 A0.count) (.slice va A0.data.length vc) (.bool A1.ok) (.int .i64 A1.count) (.slice vb A1.data.length vd)
        unfold set6 at hr
        obtain ⟨q0, q1, q2, q3, q4, q5⟩ := row6 hr
        refine bodyPost_ret (v := .tuple #[.agg #[.bool A0.ok, .int .i64 A0.count, .slice va A0.data.length vc, .bool A1.ok, .int .i64 A1.count, .slice vb A1.data.length vd], .int .i64 (newF A0 A1), .int .i64 0]) (by simp [results, Try.results54, go_sem, q0, q1, q2, q3, q4, q5]) rfl ?_
        have hf := bo_fin (X := ⟨A0, A1, newF A0 A1, 0, d1⟩) HST.out (.bool A0.ok) (.int .i64 A0.count) (.slice va A0.data.length vc) (.bool A1.ok) (.int .i64 A1.count) (.slice vb A1.data.length vd) HGR.out.symm
        rw [HE2.out HXA.out HXB.out]
        exact hf.ext ((Ext.refl _).drew)
end Go.Proofs.Ytgbiffpnfpdcoaa
