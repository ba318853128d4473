/- The document's map of blocks in memory; New, may, Free, Commit, Reset, walked. -/
import Derived.Test.YtbpcgfplokkfpaaAlM
import Derived.Test.YtbpcgfplokkfpaaInts
namespace Go.Proofs.Ytbpcgfplokkfpaa
open Go.RowKit
set_option linter.unusedVariables false
set_option linter.unusedSimpArgs false

/-- block g is a map of blocks: in use now, in use at the last Commit; out of blocks of T -/
def RMapAt (T : Nat → Prop) (w : World) (g : Nat) (now last : List Bool) : Prop :=
  ∃ vn vl, w.heap[g]? = some (.cells #[vn, vl] 101 (0, 0)) ∧ OwnS rBo 4 w 0 (fun _ => False) vn now ∧ OwnS rBo 4 w 0 (fun _ => False) vl last ∧ last.length = now.length ∧ now.length ≤ 512 ∧
    T g ∧ (∀ k, vn.ownBlock = some k → k ≠ g ∧ vl.ownBlock ≠ some k ∧ T k) ∧ (∀ k, vl.ownBlock = some k → k ≠ g ∧ T k)
theorem RMapAt.keep {T : Nat → Prop} {w w' : World} {g : Nat} {now last : List Bool} (h : RMapAt T w g now last) (hk : Keep T w w') : RMapAt T w' g now last := by
  obtain ⟨vn, vl, h1, h2, h3, h4, h5, h6, h7, h8⟩ := h
  exact ⟨vn, vl, (hk.block g h6 (Array.getElem?_eq_some_iff.1 h1).1).trans h1, h2.kept (hk.mono fun k hk' _ => by rcases hk' with h | h; exact h.elim; exact (h7 k h).2.2), h3.kept (hk.mono fun k hk' _ => by rcases hk' with h | h; exact h.elim; exact (h8 k h).2), h4, h5, h6, h7, h8⟩
theorem RMapAt.ext {T : Nat → Prop} {w w' : World} {g : Nat} {now last : List Bool} (h : RMapAt T w g now last) (hk : Ext w w') : RMapAt T w' g now last := h.keep (hk.keep _)
theorem RMapAt.lt {T : Nat → Prop} {w : World} {g : Nat} {now last : List Bool} (h : RMapAt T w g now last) : g < w.heap.size := by
  obtain ⟨vn, vl, h1, _⟩ := h; exact (Array.getElem?_eq_some_iff.1 h1).1

theorem RMapAt.putLast {T : Nat → Prop} {w w1 : World} {g : Nat} {now last xs : List Bool} {v' : Value} (h : RMapAt T w g now last) (hx : Ext w w1) (ho : OwnS rBo 4 w1 w.heap.size (fun _ => False) v' xs) (hl : xs.length = now.length) :
    RMapAt (Newer T w (w1.setCell ⟨g, 1, none⟩ v')) (w1.setCell ⟨g, 1, none⟩ v') g now xs ∧ Keep (fun k => ¬ T k) w (w1.setCell ⟨g, 1, none⟩ v') := by
  have hg := h.lt
  obtain ⟨vn, vl, h1, h2, h3, h4, h5, h6, h7, h8⟩ := h
  have r1 := (Below.block hx g hg).trans h1
  refine ⟨⟨vn, v', set_blk r1 v', (h2.ext hx).kept ((Keep.refl _ _).setCell (p := ⟨g, 1, none⟩) (fun h => by rcases h with h | h; exact h; exact (h7 g h).1 rfl) _), (ho.low (Nat.zero_le _)).kept ((Keep.refl _ _).setCell (p := ⟨g, 1, none⟩) (fun h => by rcases h with h | h; exact h; (have := (ho.lt g h).1; omega)) _), hl, h5, .inl h6, fun k hk => ⟨(h7 k hk).1, fun e => ?_, .inl (h7 k hk).2.2⟩, fun k hk => ⟨fun e => ?_, .inr ?_⟩⟩, (hx.keep _).setCell (p := ⟨g, 1, none⟩) (fun h => h h6) _⟩
  · have e1 := (ho.lt k e).1
    have e2 := (h2.lt k hk).2
    omega
  · have e1 := (ho.lt k hk).1; omega
  · have e1 := ho.lt k hk; simp only [heap_setCell_sz]; exact e1
theorem RMapAt.putNow {T : Nat → Prop} {w w1 : World} {g : Nat} {now last xs : List Bool} {v' : Value} (h : RMapAt T w g now last) (hx : Ext w w1) (ho : OwnS rBo 4 w1 w.heap.size (fun _ => False) v' xs) (hl : xs.length = now.length) :
    RMapAt (Newer T w (w1.setCell ⟨g, 0, none⟩ v')) (w1.setCell ⟨g, 0, none⟩ v') g xs last ∧ Keep (fun k => ¬ T k) w (w1.setCell ⟨g, 0, none⟩ v') := by
  have hg := h.lt
  obtain ⟨vn, vl, h1, h2, h3, h4, h5, h6, h7, h8⟩ := h
  have r1 := (Below.block hx g hg).trans h1
  refine ⟨⟨v', vl, set_blk r1 v', (ho.low (Nat.zero_le _)).kept ((Keep.refl _ _).setCell (p := ⟨g, 0, none⟩) (fun h => by rcases h with h | h; exact h; (have := (ho.lt g h).1; omega)) _), (h3.ext hx).kept ((Keep.refl _ _).setCell (p := ⟨g, 0, none⟩) (fun h => by rcases h with h | h; exact h; exact (h8 g h).1 rfl) _), by omega, by omega, .inl h6, fun k hk => ⟨fun e => ?_, fun e => ?_, .inr ?_⟩, fun k hk => ⟨(h8 k hk).1, .inl (h8 k hk).2⟩⟩, (hx.keep _).setCell (p := ⟨g, 0, none⟩) (fun h => h h6) _⟩
  · have e1 := (ho.lt k hk).1; omega
  · have e1 := (ho.lt k hk).1
    have e2 := (h3.lt k e).2
    omega
  · have e1 := ho.lt k hk; simp only [heap_setCell_sz]; exact e1

theorem rnew_leaf {w W : World} {n b1 b2 b3 : Nat} (hn : n ≤ 512) (hx : Ext w W) (h1 : W.heap[b1]? = some (.cells (falses n) 4 (0, 0))) (h2 : W.heap[b2]? = some (.cells (falses n) 4 (0, 0))) (h3 : W.heap[b3]? = some (.cells #[.slice (some ⟨b1, 0, none⟩) n n, .slice (some ⟨b2, 0, none⟩) n n] 101 (0, 0)))
    (l1 : w.heap.size ≤ b1) (l2 : w.heap.size ≤ b2) (l3 : w.heap.size ≤ b3) (n1 : b1 ≠ b2) (n2 : b1 ≠ b3) (n3 : b2 ≠ b3) :
    RMapAt (fun k => w.heap.size ≤ k ∧ k < W.heap.size) W b3 (List.replicate n false) (List.replicate n false) := by
  have k1 := (Array.getElem?_eq_some_iff.1 h1).1
  have k2 := (Array.getElem?_eq_some_iff.1 h2).1
  have k3 := (Array.getElem?_eq_some_iff.1 h3).1
  refine ⟨_, _, h3, falses_own h1 hn 0 (Nat.zero_le _), falses_own h2 hn 0 (Nat.zero_le _), rfl, by simpa using hn, ⟨l3, k3⟩, fun k hk => ?_, fun k hk => ?_⟩
  · simp only [Value.ownBlock, Option.map_some, Option.some.injEq] at hk ⊢
    subst hk
    exact ⟨n2, fun e => n1 (Option.some.inj e.symm), l1, k1⟩
  · simp only [Value.ownBlock, Option.map_some, Option.some.injEq] at hk
    subst hk
    exact ⟨n3, l2, k2⟩


set_option maxRecDepth 100000 in
set_option maxHeartbeats 1000000 in
theorem RNewM_ok (w : World) (n : Nat) (hn : n ≤ 512) :
    Calls Try.prog 31 #[.int .i64 n] w fun e w' => ∃ g, e = .returned (.pointer (some ⟨g, 0, none⟩)) ∧ RMapAt (fun k => w.heap.size ≤ k ∧ k < w'.heap.size) w' g (List.replicate n false) (List.replicate n false) ∧ Ext w w' := by
  have hmk := fun W => makeB n hn W
  go_enter Try.func31, Try.ntmps31
  go_wp2_with fail
  have hxd : Ext w w.drew := by (· repeat (first | (with_reducible assumption) | exact Ext.refl _ | refine Ext.alloc ?_ _ | refine Ext.drew ?_ | refine Ext.drewN ?_ _ | (apply Ext.snart; (with_reducible assumption))))
  refine wp_region_T (fun _ => True) [4, 5, 6] (by kernel_rfl) trivial (fun hS => ?_)
  have hx0 := hxd
  generalize w.drew = q0 at hS hx0 ⊢
  (refine wpAnyT_take (i := 0) (v := ?_) rfl (by kernel_rfl) (by kernel_rfl) (by kernel_rfl) (by kernel_rfl) (fun _ _ _ h => h) (Or.inl ⟨by rfl, ?_⟩) (by assumption) ?_; rotate_left; ((intro wS hSw; (try dsimp only at hSw); (try simp only [List.getElem_toArray, List.getElem_cons_zero, List.getElem_cons_succ]); go_simp); (try with_reducible rfl)); (try simp only [Act.put, List.getElem_toArray, List.getElem_cons_zero, List.getElem_cons_succ, List.setIfInBounds_toArray, List.set_cons_zero, List.set_cons_succ]))
  (refine wpAnyT_take (i := 2) (v := ?_) rfl (by kernel_rfl) (by kernel_rfl) (by kernel_rfl) (by kernel_rfl) (fun _ _ _ h => h) (Or.inl ⟨by rfl, ?_⟩) (by assumption) ?_; rotate_left; ((intro wS hSw; (try dsimp only at hSw); (try simp only [List.getElem_toArray, List.getElem_cons_zero, List.getElem_cons_succ]); go_simp); (try with_reducible rfl)); (try simp only [Act.put, List.getElem_toArray, List.getElem_cons_zero, List.getElem_cons_succ, List.setIfInBounds_toArray, List.set_cons_zero, List.set_cons_succ]))
  have hz0 := hx0.size
  refine wpAnyT_all (rs := [1, 3]) (by kernel_rfl) (by decide) (AllT.consS rfl (fun K hK => ?_) (AllT.consS rfl (fun K hK => ?_) AllT.nil))
  · go_simp
    (refine hK.out _ _ (trivial) (fun hS => ?_); clear hK K)
    refine wpAnyT_all (rs := [3]) (by kernel_rfl) (by decide) (AllT.consS rfl (fun K hK => ?_) AllT.nil)
    go_simp
    (refine hK.out _ _ (trivial) (fun hS => ?_); clear hK K)
    refine wpAnyT_all (rs := [4]) (by kernel_rfl) (by decide) (AllT.consF rfl rfl (fun K hK => ?_) AllT.nil)
    go_simp
    (refine hK.out _ _ ?_; clear hK K)
    refine wpAnyT_all (rs := [5]) (by kernel_rfl) (by decide) (AllT.consF rfl rfl (fun K hK => ?_) AllT.nil)
    go_simp
    (refine hK.out _ _ ?_; clear hK K)
    refine wpAnyT_all (rs := [6]) (by kernel_rfl) (by decide) (AllT.consF rfl rfl (fun K hK => ?_) AllT.nil)
    go_simp
    (refine hK.out _ _ ?_; clear hK K)
    refine wpAnyT_done (by kernel_rfl) (NoPanic.normal ?_) _
    go_wp2_with fail
    go_ret
    obtain ⟨r1, r2, r3⟩ := rows3 q0 (falses n) (falses n) 4 4 _ _
    exact ⟨_, rfl, rnew_leaf hn (hx0.trans (by (· repeat (first | (with_reducible assumption) | exact Ext.refl _ | refine Ext.alloc ?_ _ | refine Ext.drew ?_ | refine Ext.drewN ?_ _ | (apply Ext.snart; (with_reducible assumption)))))) r1 r2 r3 (by omega) (by omega) (by omega) (by omega) (by omega) (by omega), hx0.trans (by (· repeat (first | (with_reducible assumption) | exact Ext.refl _ | refine Ext.alloc ?_ _ | refine Ext.drew ?_ | refine Ext.drewN ?_ _ | (apply Ext.snart; (with_reducible assumption)))))⟩
  · go_simp
    (refine hK.out _ _ (trivial) (fun hS => ?_); clear hK K)
    refine wpAnyT_all (rs := [1]) (by kernel_rfl) (by decide) (AllT.consS rfl (fun K hK => ?_) AllT.nil)
    go_simp
    (refine hK.out _ _ (trivial) (fun hS => ?_); clear hK K)
    refine wpAnyT_all (rs := [4]) (by kernel_rfl) (by decide) (AllT.consF rfl rfl (fun K hK => ?_) AllT.nil)
    go_simp
    (refine hK.out _ _ ?_; clear hK K)
    refine wpAnyT_all (rs := [5]) (by kernel_rfl) (by decide) (AllT.consF rfl rfl (fun K hK => ?_) AllT.nil)
    go_simp
    (refine hK.out _ _ ?_; clear hK K)
    refine wpAnyT_all (rs := [6]) (by kernel_rfl) (by decide) (AllT.consF rfl rfl (fun K hK => ?_) AllT.nil)
    go_simp
    (refine hK.out _ _ ?_; clear hK K)
    refine wpAnyT_done (by kernel_rfl) (NoPanic.normal ?_) _
    go_wp2_with fail
    go_ret
    obtain ⟨r1, r2, r3⟩ := rows3 q0 (falses n) (falses n) 4 4 _ _
    exact ⟨_, rfl, rnew_leaf hn (hx0.trans (by (· repeat (first | (with_reducible assumption) | exact Ext.refl _ | refine Ext.alloc ?_ _ | refine Ext.drew ?_ | refine Ext.drewN ?_ _ | (apply Ext.snart; (with_reducible assumption)))))) r2 r1 r3 (by omega) (by omega) (by omega) (by omega) (by omega) (by omega), hx0.trans (by (· repeat (first | (with_reducible assumption) | exact Ext.refl _ | refine Ext.alloc ?_ _ | refine Ext.drew ?_ | refine Ext.drewN ?_ _ | (apply Ext.snart; (with_reducible assumption)))))⟩
theorem RNewM_no (w : World) (n : Int) (hn : -9223372036854775808 ≤ n ∧ n ≤ 9223372036854775807) (hb : n < 0 ∨ 512 < n) :
    Calls Try.prog 31 #[.int .i64 n] w fun e w' => e = .returned (.pointer none) ∧ w = w' := by
  have hb' : n < 0 ∨ (¬ n < 0 ∧ 512 < n) := by omega
  rcases hb' with h | ⟨h1, h2⟩
  all_goals
    go_enter Try.func31, Try.ntmps31
    go_wp2_with fail
    go_ret
    exact ⟨rfl, rfl⟩


theorem RMapAt.cells {T : Nat → Prop} {w : World} {g : Nat} {now last : List Bool} (h : RMapAt T w g now last) : ∃ an cn al cl, w.cell? ⟨g, 0, none⟩ = some (.slice an now.length cn) ∧ w.cell? ⟨g, 1, none⟩ = some (.slice al now.length cl) ∧ OwnS rBo 4 w 0 (fun _ => False) (.slice an now.length cn) now ∧ OwnS rBo 4 w 0 (fun _ => False) (.slice al now.length cl) last ∧ last.length = now.length ∧ now.length ≤ 512 ∧ (∀ i, i < now.length → now[i]? = some (now.getD i true)) := by
  obtain ⟨vn, vl, h1, h2, h3, h4, h5, -⟩ := h
  obtain ⟨an, cn, rfl⟩ := h2.slice
  obtain ⟨al, cl, rfl⟩ := h3.slice
  rw [h4] at h1 h3
  refine ⟨an, cn, al, cl, (cell_of_row _ _ 0 _ _ _ h1).trans rfl, (cell_of_row _ _ 1 _ _ _ h1).trans rfl, h2, h3, h4, h5, fun i hi => ?_⟩
  rw [List.getD_eq_getElem?_getD, List.getElem?_eq_getElem hi]; rfl

set_option maxRecDepth 100000 in
set_option maxHeartbeats 1000000 in
theorem rmay_any (T : Nat → Prop) (w : World) (g : Nat) (now last : List Bool) (h : RMapAt T w g now last) (i : Nat) (hi : i < now.length) :
    Calls Try.prog 60 #[.pointer (some ⟨g, 0, none⟩), .int .i64 i] w fun e w' => e = .returned (.bool (freeAt now last i)) ∧ w = w' := by
  obtain ⟨an, cn, al, cl, c0, c1, h2, h3, h4, h5, -⟩ := h.cells
  have hfr : freeAt now last i = (!now[i] && !(last[i]'(by omega))) := by
    unfold freeAt
    rw [List.getD_eq_getElem?_getD, List.getD_eq_getElem?_getD, List.getElem?_eq_getElem hi, List.getElem?_eq_getElem (by omega : i < last.length)]
    rfl
  obtain ⟨g1, o1, n1, e1, -, -, z1⟩ := h2.rdT.atB i hi
  obtain ⟨g2, o2, n2, e2, -, -, z2⟩ := h3.rdT.atB i (by omega)
  simp only [Value.slice.injEq] at e1 e2
  obtain ⟨rfl, -, rfl⟩ := e1
  obtain ⟨rfl, -, rfl⟩ := e2
  rw [hfr]
  generalize now[i] = p1 at z1 ⊢
  generalize last[i]'(by omega) = p2 at z2 ⊢
  clear h h2 h3 hfr h4
  cases p1 <;> cases p2
  all_goals
    go_enter Try.func60, Try.ntmps60
    go_wp2_with fail
    go_ret
    exact ⟨rfl, rfl⟩

set_option maxRecDepth 100000 in
set_option maxHeartbeats 1000000 in
theorem RFree_any (T : Nat → Prop) (w : World) (g : Nat) (now last : List Bool) (h : RMapAt T w g now last) :
    Calls Try.prog 59 #[.pointer (some ⟨g, 0, none⟩)] w fun e w' => e = .returned (.int .i64 ((freeIdx now last).length : Nat)) ∧ w = w' := by
  obtain ⟨an, cn, al, cl, c0, c1, -, -, -, h5, -⟩ := h.cells
  have H := hid h
  clear h c1
  go_enter Try.func59, Try.ntmps59
  go_wp2_with fail
  go_loopw [3, 4] (fun u3 u4 wr => ∃ i : Nat, u4 = .int .i64 i ∧ i ≤ now.length ∧ u3 = .int .i64 ((freeBelow now last i).length : Nat) ∧ w = wr) (fun _ u4 _ => now.length - (intOf u4).toNat)
  case atStart => exact ⟨0, rfl, by omega, by simp [freeBelow], rfl⟩
  case round =>
    obtain ⟨i, rfl, hi, rfl, rfl⟩ := hrel
    have hle : (freeBelow now last i).length ≤ i := by
      unfold freeBelow
      have := List.length_filter_le (freeAt now last) (List.range i)
      rwa [List.length_range] at this
    by_cases hlt : i < now.length
    · have HY := hid (freeBelow_yes (now := now) (last := last) (n := i))
      have HNO := hid (freeBelow_no (now := now) (last := last) (n := i))
      go_wp2_with fail
      refine (rmay_any T w g now last H.out i hlt).mono ?_
      rintro e w' ⟨rfl, rfl⟩
      generalize freeAt now last i = f at HY HNO ⊢
      cases f
      · go_wp2_with fail
        go_roundw
        case rel => exact ⟨i + 1, by go_num, by omega, by rw [HNO.out (by simp)], trivial⟩
        case measure => simp [intOf]; omega
      · go_wp2_with fail
        go_roundw
        case rel => exact ⟨i + 1, by go_num, by omega, by rw [HY.out (by simp), List.length_append]; go_num, trivial⟩
        case measure => simp [intOf]; omega
    · obtain rfl : i = now.length := by omega
      go_wp2_with fail
      go_ret
      exact ⟨rfl, rfl⟩

set_option maxRecDepth 100000 in
set_option maxHeartbeats 1000000 in
theorem RCommit_any (T : Nat → Prop) (w : World) (g : Nat) (now last : List Bool) (h : RMapAt T w g now last) :
    Calls Try.prog 36 #[.pointer (some ⟨g, 0, none⟩)] w fun e w' => e = .returned (.tuple #[]) ∧ RMapAt (Newer T w w') w' g now now ∧ Keep (fun k => ¬ T k) w w' := by
  have H := hid h
  obtain ⟨an, cn, al, cl, c0, c1, h2, h3, h4, h5, -⟩ := h.cells
  obtain ⟨vn, vl, hrow, -⟩ := id h
  have hg := h.lt
  obtain ⟨gs, hgs, hsrc, hall⟩ := (h2.rdT.ext ((Ext.refl w).alloc (.cells #[] 4))).src Try.underlying36
  have hgl : gs.length = now.length := by have := congrArg List.length hgs; rw [List.length_map] at this; omega
  have HMADE := hid (OwnS.made rBo 4 w (fun _ => False) (fun h => h))
  have HG := hid hgs
  have HGL := hid hgl
  have HSRC := hid hsrc
  have HALL := hid hall
  have HROW := hid hrow
  have HG0 := hid hg
  have H4 := hid h4
  have hg2 : ¬ g = w.heap.size := by omega
  have hg3 : ¬ w.heap.size = g := by omega
  clear h h2 h3 h4 hrow hgs hgl hsrc hall
  go_enter Try.func36, Try.ntmps36
  go_wp2_with (at_builtin; go_must (refine wl_appS rBo rfl _ _ _ _ _ _ 1 rfl Try.underlying36 infoBool rfl w.heap.size _ _ [] rfl HMADE.out _ gs rfl HSRC.out (fun p hp => rBo_free (HALL.out p hp)) (fun _ h => h.elim) (by rw [HGL.out]; simp only [List.length_nil, Nat.zero_add] <;> omega) (by rw [HGL.out]; simp only [List.length_nil, Nat.zero_add] <;> omega) (by simp only [heap_alloc_sz] <;> omega) ?_; intro v' w' k1 k2 k3; rw [List.nil_append, ← HG.out] at k1; have hx := ((Ext.refl w).alloc (.cells #[] 4)).grown k2 (fun k hk => by cases hk; exact Nat.le_refl _); have rr := (Below.block hx g HG0.out).trans HROW.out; have fr := frozen_blk rr 1; have hcc := (cell_of_row _ _ 1 _ _ _ rr).trans rfl; have K1 := hid k1; have HX := hid hx; clear k1 k2 k3 hx rr; obtain ⟨av', cv', rfl⟩ := K1.out.slice))
  go_end0
  obtain ⟨q1, q2⟩ := H.out.putLast HX.out K1.out rfl
  exact ⟨rfl, q1, q2⟩

set_option maxRecDepth 100000 in
set_option maxHeartbeats 1000000 in
theorem RReset_any (T : Nat → Prop) (w : World) (g : Nat) (now last : List Bool) (h : RMapAt T w g now last) :
    Calls Try.prog 37 #[.pointer (some ⟨g, 0, none⟩)] w fun e w' => e = .returned (.tuple #[]) ∧ RMapAt (Newer T w w') w' g last last ∧ Keep (fun k => ¬ T k) w w' := by
  have H := hid h
  obtain ⟨an, cn, al, cl, c0, c1, h2, h3, h4, h5, -⟩ := h.cells
  obtain ⟨vn, vl, hrow, -⟩ := id h
  have hg := h.lt
  obtain ⟨gs, hgs, hsrc, hall⟩ := (h3.rdT.ext ((Ext.refl w).alloc (.cells #[] 4))).src Try.underlying36
  have hgl : gs.length = now.length := by have := congrArg List.length hgs; rw [List.length_map] at this; omega
  have HMADE := hid (OwnS.made rBo 4 w (fun _ => False) (fun h => h))
  have HG := hid hgs
  have HGL := hid hgl
  have HSRC := hid hsrc
  have HALL := hid hall
  have HROW := hid hrow
  have HG0 := hid hg
  have H4 := hid h4
  have hg2 : ¬ g = w.heap.size := by omega
  have hg3 : ¬ w.heap.size = g := by omega
  clear h h2 h3 h4 hrow hgs hgl hsrc hall
  go_enter Try.func37, Try.ntmps37
  go_wp2_with (at_builtin; go_must (refine wl_appS rBo rfl _ _ _ _ _ _ 1 rfl Try.underlying36 infoBool rfl w.heap.size _ _ [] rfl HMADE.out _ gs rfl HSRC.out (fun p hp => rBo_free (HALL.out p hp)) (fun _ h => h.elim) (by rw [HGL.out]; simp only [List.length_nil, Nat.zero_add] <;> omega) (by rw [HGL.out]; simp only [List.length_nil, Nat.zero_add] <;> omega) (by simp only [heap_alloc_sz] <;> omega) ?_; intro v' w' k1 k2 k3; rw [List.nil_append, ← HG.out] at k1; have hx := ((Ext.refl w).alloc (.cells #[] 4)).grown k2 (fun k hk => by cases hk; exact Nat.le_refl _); have rr := (Below.block hx g HG0.out).trans HROW.out; have fr := frozen_blk rr 0; have hcc := (cell_of_row _ _ 0 _ _ _ rr).trans rfl; have K1 := hid k1; have HX := hid hx; clear k1 k2 k3 hx rr; obtain ⟨av', cv', rfl⟩ := K1.out.slice))
  go_end0
  obtain ⟨q1, q2⟩ := H.out.putNow HX.out K1.out H4.out
  exact ⟨rfl, q1, q2⟩
end Go.Proofs.Ytbpcgfplokkfpaa
