/- inode's Node in memory; its functions, walked. -/
import Derived.Test.YtbpcgfplokkfpaaRun
import Derived.Test.YtbpcgfplokkfpaaNodeL
import Derived.IntWalk
import Derived.Outline
import Derived.Deep.QuietTactic
import Derived.BigQuiet
import Derived.BigRegion
import Derived.RegionTactic
namespace Go.Proofs.Ytbpcgfplokkfpaa
open Go.RowKit
set_option linter.unusedVariables false
set_option linter.unusedSimpArgs false


theorem ret_i64 {a b : Int} (h : a = b) : Ending.returned (.int .i64 a) = .returned (.int .i64 b) := by rw [h]
theorem quiet_left {P : Program} {f : FuncId} {args : Array Value} {w : World} {n : Nat} {v : Value}
    (h : Calls P f args (w.drewN n) fun e w' => e = .returned v ∧ w.drewN n = w') : Calls P f args (w.drewN n) fun e w'' => e = .returned v ∧ ∃ m, w'' = w.drewN m :=
  h.mono fun _ _ ⟨he, hm⟩ => ⟨he, n, hm.symm⟩

set_option maxRecDepth 100000 in
set_option maxHeartbeats 400000 in
theorem CloneR_any (w : World) (v : Value) (xs : List Run) (h : RdR w v xs) (hn : xs = [] → v = .slice none 0 0) (hl : xs.length ≤ 1000000) :
    Calls Try.prog 67 #[v] w fun e w' => ∃ v', e = .returned v' ∧ OwnR w' w.heap.size v' xs ∧ (xs = [] → v' = .slice none 0 0) ∧ Below w.heap.size w w' := by
  have hnil := fun w => Lib.run_eql_slice_nil (P := Try.prog) w
  by_cases h0 : xs = []
  · obtain rfl := hn h0
    subst h0
    clear hn h
    go_enter Try.func67, Try.ntmps67
    go_wp2_with fail
    go_ret
    exact ⟨_, rfl, OwnR.nil _ _, fun _ => rfl, Below.refl _ _⟩
  · have hp : 0 < xs.length := List.length_pos_iff.2 h0
    obtain ⟨g, o, cap, rfl, hg, -, -⟩ := h.at 0 hp
    have H := hid h
    clear h hn
    go_enter Try.func67, Try.ntmps67
    have HA : OwnR (w.alloc (.cells #[] 43)) w.heap.size (.slice (some ⟨w.heap.size, 0, none⟩) 0 0) [] := World.ownsRow_made w #[] 0 (Nat.le_refl _) (by simp [maxLen]) rfl
    have HS := H.out.ext ((Ext.refl w).alloc (.cells #[] 43))
    go_wp2_with (at_builtin; go_must (refine wl_appR rfl _ _ _ rfl w.heap.size _ [] rfl HA _ xs rfl (src_R HS) (by simp; omega) (by simp) ?_; intro v' w' k1 k4 k5 k6; rw [List.nil_append] at k1))
    go_ret
    exact ⟨_, rfl, k1, fun e => absurd e h0, (((Ext.refl w).alloc _).step k5 (Nat.le_refl _))⟩

/-- block g is a Node of size s and blocks L, its row of runs in block q -/
def NodeAt (w : World) (g : Nat) (q : Option Nat) (s : Int) (L : List Int) : Prop :=
  ∃ vr, w.heap[g]? = some (.cells #[.int .i64 s, vr] 91 (0, 0)) ∧ RdR w vr (whole L) ∧ vr.ownBlock = q ∧ q ≠ some g ∧ (∀ k, q = some k → k < w.heap.size) ∧ (L = [] → vr = .slice none 0 0)

theorem NodeAt.keep {w w' : World} {g : Nat} {q : Option Nat} {s : Int} {L : List Int} {S : Nat → Prop} (h : NodeAt w g q s L) (hk : Keep S w w') (hg : S g) (hq : ∀ k, q = some k → S k) : NodeAt w' g q s L := by
  obtain ⟨vr, h1, h2, h3, h4, h5, h6⟩ := h
  have hl : g < w.heap.size := (Array.getElem?_eq_some_iff.1 h1).1
  exact ⟨vr, by rw [hk.block g hg hl]; exact h1, h2.keep hk (fun _ k hb => hq k (by rw [← h3]; exact hb)), h3, h4, fun k hb => Nat.lt_of_lt_of_le (h5 k hb) hk.size, h6⟩
theorem NodeAt.ext {w w' : World} {g : Nat} {q : Option Nat} {s : Int} {L : List Int} (h : NodeAt w g q s L) (hx : Ext w w') : NodeAt w' g q s L := h.keep (hx.keep (fun _ => True)) trivial fun _ _ => trivial
theorem NodeAt.lt {w : World} {g : Nat} {q : Option Nat} {s : Int} {L : List Int} (h : NodeAt w g q s L) : g < w.heap.size := by
  obtain ⟨vr, h1, _⟩ := h
  exact (Array.getElem?_eq_some_iff.1 h1).1
theorem NodeAt.cells {w : World} {g : Nat} {q : Option Nat} {s : Int} {L : List Int} (h : NodeAt w g q s L) :
    ∃ a cap, w.cell? ⟨g, 0, none⟩ = some (.int .i64 s) ∧ w.cell? ⟨g, 1, none⟩ = some (.slice a (whole L).length cap) ∧ RdR w (.slice a (whole L).length cap) (whole L) ∧ w.frozen? ⟨g, 0, none⟩ = false ∧ w.frozen? ⟨g, 1, none⟩ = false ∧ (L = [] → a = none ∧ cap = 0) ∧ cap ≤ 9223372036854775807 := by
  obtain ⟨vr, h1, h2, h3, h4, h5, h6⟩ := h
  obtain ⟨a, cap, rfl, hc1, hc2⟩ := h2.slice
  refine ⟨a, cap, by rw [cell_of_row _ _ _ _ _ _ h1]; rfl, by rw [cell_of_row _ _ _ _ _ _ h1]; rfl, h2, ?_, ?_, fun e => ?_, hc2⟩
  · simp [World.frozen?, h1]
  · simp [World.frozen?, h1]
  · have := h6 e
    simp only [Value.slice.injEq] at this
    exact ⟨this.1, this.2.2⟩

set_option maxRecDepth 100000 in
set_option maxHeartbeats 400000 in
theorem nodeNew_any (w : World) : Calls Try.prog 39 #[] w fun e w' => ∃ g, e = .returned (.pointer (some ⟨g, 0, none⟩)) ∧ NodeAt w' g none 0 [] ∧ w.heap.size ≤ g ∧ Below w.heap.size w w' := by
  go_enter Try.func39, Try.ntmps39
  go_wp2_with fail
  go_ret
  exact ⟨_, rfl, ⟨.slice none 0 0, heap_alloc_new _ _, RdR.nil _, rfl, by simp, by simp, fun _ => rfl⟩, Nat.le_refl _, (Below.refl _ _).alloc (Nat.le_refl _) _⟩

set_option maxRecDepth 100000 in
set_option maxHeartbeats 400000 in
theorem blocks_any (w : World) (n : Int) (h0 : 0 ≤ n) (h1 : n ≤ 4611686018427387904) : Calls Try.prog 54 #[.int .i64 n] w fun e w' => e = .returned (.int .i64 (nb n)) ∧ w = w' := by
  go_enter Try.func54, Try.ntmps54
  go_wp2_with fail
  go_ret
  exact ⟨ret_i64 (by unfold nb; omega), rfl⟩

set_option maxRecDepth 100000 in
set_option maxHeartbeats 400000 in
theorem nodeSize_any (w : World) (g : Nat) (q : Option Nat) (s : Int) (L : List Int) (h : NodeAt w g q s L) : Calls Try.prog 18 #[.pointer (some ⟨g, 0, none⟩)] w fun e w' => e = .returned (.int .i64 s) ∧ w = w' := by
  obtain ⟨a, cap, c0, c1, -⟩ := h.cells
  go_enter Try.func18, Try.ntmps18
  go_wp2_with fail
  go_ret
  exact ⟨rfl, rfl⟩

set_option maxRecDepth 100000 in
set_option maxHeartbeats 400000 in
theorem nodeBlocks_any (w : World) (g : Nat) (q : Option Nat) (s : Int) (L : List Int) (h : NodeAt w g q s L) (ho : NodeOk s L) : Calls Try.prog 20 #[.pointer (some ⟨g, 0, none⟩)] w fun e w' => e = .returned (.int .i64 (nb s)) ∧ w = w' := by
  have h1 := ho.lo
  have h2 := ho.hi
  go_enter Try.func20, Try.ntmps20
  go_wp2_with (first | (go_at_call 18; refine (nodeSize_any w g q s L h).mono ?_; rintro e w' ⟨rfl, rfl⟩) | (go_at_call 54; refine (blocks_any _ s h1 (by omega)).mono ?_; rintro e w' ⟨rfl, rfl⟩))
  go_ret
  exact ⟨rfl, rfl⟩

set_option maxRecDepth 100000 in
set_option maxHeartbeats 400000 in
theorem nodeRuns_any (w : World) (g : Nat) (q : Option Nat) (s : Int) (L : List Int) (h : NodeAt w g q s L) (hl : L.length ≤ 1000000) : Calls Try.prog 45 #[.pointer (some ⟨g, 0, none⟩)] w fun e w' => ∃ v', e = .returned v' ∧ OwnR w' w.heap.size v' (whole L) ∧ (L = [] → v' = .slice none 0 0) ∧ Below w.heap.size w w' := by
  obtain ⟨a, cap, c0, c1, hr, -, -, hn, hc⟩ := h.cells
  have hwl := whole_len L
  have HN := hid (show whole L = [] → Value.slice a (whole L).length cap = .slice none 0 0 from fun e => by
    obtain ⟨rfl, rfl⟩ := hn ((whole_nil_iff L).1 e)
    rw [e]; rfl)
  have HI := hid (whole_nil_iff L)
  clear hn h
  generalize whole L = xs at *
  go_enter Try.func45, Try.ntmps45
  go_wp2_with fail
  refine (CloneR_any w _ xs hr HN.out (by omega)).mono ?_
  rintro e w' ⟨v', rfl, h1, h2, h3⟩
  have H2 := hid h2
  clear h2
  go_wp2_with fail
  go_ret
  exact ⟨_, rfl, h1, fun e => H2.out (HI.out.2 e), h3⟩

set_option maxRecDepth 100000 in
set_option maxHeartbeats 400000 in
theorem nodeNeed_any (w : World) (g : Nat) (q : Option Nat) (s n : Int) (L : List Int) (h : NodeAt w g q s L) (hs : 0 ≤ s ∧ s ≤ 32768) (hn : -9223372036854775808 ≤ n ∧ n ≤ 9223372036854775807) :
    Calls Try.prog 40 #[.pointer (some ⟨g, 0, none⟩), .int .i64 n] w fun e w' => e = .returned (.tuple #[.int .i64 (needF s n).1, .int .i64 (needF s n).2]) ∧ Below w.heap.size w w' := by
  obtain ⟨a, cap, c0, c1, -⟩ := h.cells
  obtain ⟨hs1, hs2⟩ := hs
  obtain ⟨hn1, hn2⟩ := hn
  by_cases hneg : n < 0
  · have HF := hid (show needF s n = (0, 1) by unfold needF; rw [if_pos hneg])
    go_enter Try.func40, Try.ntmps40
    go_wp2_with fail
    go_ret2
    exact ⟨by rw [HF.out]; rfl, Below.refl _ _⟩
  · by_cases hbig : 32768 - s < n
    · have HF := hid (show needF s n = (0, 60) by unfold needF; rw [if_neg hneg, if_pos hbig])
      go_enter Try.func40, Try.ntmps40
      go_wp2_with fail
      go_ret2
      exact ⟨by rw [HF.out]; rfl, Below.refl _ _⟩
    · have HF := hid (show needF s n = (nb (s + n) - nb s, 0) by unfold needF; rw [if_neg hneg, if_neg hbig])
      have b1 := nb_lo hs1
      have b2 := nb_hi hs2
      have b3 := nb_lo (show 0 ≤ s + n by omega)
      have b4 := nb_hi (show s + n ≤ 32768 by omega)
      go_enter Try.func40, Try.ntmps40
      have e1 : IntKind.i64.wrap (s + n) = s + n := IntWalk.i64_in _ (by omega)
      have e2 : IntKind.i64.wrap (nb (s + n) - nb s) = nb (s + n) - nb s := IntWalk.i64_in _ (by omega)
      have hsn : 0 ≤ s + n := by omega
      have hsn2 : s + n ≤ 4611686018427387904 := by omega
      have hs3 : s ≤ 4611686018427387904 := by omega
      go_wp2_with fail
      go_quiet ((go_at_call 54; first | exact quiet_left (blocks_any _ _ hsn hsn2) | exact quiet_left (blocks_any _ _ hs1 hs3)))
      clear e1 e2
      go_wp2_with fail
      go_ret2
      exact ⟨by rw [HF.out]; rfl, below_drewN (Below.refl _ _) _⟩

def PutEnd (w : World) (base : Nat) (v : Value) (ys : List Run) (e : Ending) (w' : World) : Prop :=
  ∃ v', e = .returned v' ∧ OwnR w' base v' ys ∧ w.grownBy w' v.ownBlock ∧ (∀ k, v'.ownBlock = some k → v.ownBlock = some k ∨ w.heap.size ≤ k)

theorem grownBy_trans {a b c : World} {row : Option Nat} (h : a.grownBy b row) (k : b.grownBy c row) : a.grownBy c row :=
  ⟨k.os.trans h.os, k.tape.trans h.tape, k.output.trans h.output, Nat.le_trans h.size k.size, fun i hi hne => (k.block i (Nat.lt_of_lt_of_le hi h.size) hne).trans (h.block i hi hne)⟩
theorem only_drewN {a w : World} {row : Option Nat} (h : a.grownBy w row) (n : Nat) : a.grownBy (w.drewN n) row := ⟨h.os, h.tape, h.output, h.size, h.block⟩
theorem only_alloc {a w : World} {row : Option Nat} (h : a.grownBy w row) (o : Obj) : a.grownBy (w.alloc o) row :=
  ⟨h.os, h.tape, h.output, Nat.le_trans h.size (by simp), fun i hi hne => (Below.heap_alloc w o i (Nat.lt_of_lt_of_le hi h.size)).trans (h.block i hi hne)⟩
theorem grownBy_drewN {a b : World} {row : Option Nat} (h : a.grownBy b row) (n : Nat) : a.grownBy (b.drewN n) row := ⟨h.os, h.tape, h.output, h.size, h.block⟩
theorem grownBy_setCell {a b : World} {g : Nat} (h : a.grownBy b (some g)) (o : Nat) (u : Value) : a.grownBy (b.setCell ⟨g, o, none⟩ u) (some g) :=
  ⟨h.os, h.tape, h.output, by simpa [World.setCell] using h.size, fun i hi hne => (Below.heap_setCell b ⟨g, o, none⟩ u i (fun e => hne (by rw [e]))).trans (h.block i hi hne)⟩

set_option maxRecDepth 100000 in
set_option maxHeartbeats 1000000 in
theorem put_any (w : World) (base : Nat) (v : Value) (xs : List Run) (r : Run) (h : OwnR w base v xs) (hb : base ≤ w.heap.size) (hl : xs.length ≤ 1000000) (hx : ∀ x ∈ xs, (-1000000 ≤ x.1 ∧ x.1 ≤ 1000000) ∧ -1000000 ≤ x.2 ∧ x.2 ≤ 1000000) (hr : (-1000000 ≤ r.1 ∧ r.1 ≤ 1000000) ∧ -1000000 ≤ r.2 ∧ r.2 ≤ 1000000) :
    Calls Try.prog 66 #[v, .agg #[.int .i64 r.1, .int .i64 r.2]] w (PutEnd w base v (putR xs r)) := by
  obtain ⟨rf, rl⟩ := r
  dsimp only at hr ⊢
  obtain ⟨⟨hr1, hr2⟩, hr3, hr4⟩ := hr
  have HW := h.ext ((Ext.refl w).alloc (.cells #[.int .i64 rf, .int .i64 rl] 43))
  rcases snoc_cases xs with rfl | ⟨ys, k, rfl⟩
  · obtain ⟨a, cap, rfl, hcap, hcap2⟩ := h.rd.slice
    have HH := hid h
    have HHW := hid HW
    clear h hx HW
    have g1 : decide ((0 : Int) - 1 ≥ 0) = false := by decide
    go_enter Try.func66, Try.ntmps66
    go_wp2_with fail
    go_quiet (fail)
    have HB2 := hid (show w.grownBy ((((w.alloc (.cells #[.int .i64 rf, .int .i64 rl] 43)).drewN nq)).alloc (.cells #[.int .i64 rf, .int .i64 rl] 43)) (Value.slice a 0 cap).ownBlock from only_alloc (only_drewN (World.grownBy_alloc w _ _) nq) _)
    have HA := hid (HHW.out.ext (((Ext.refl _).drewN nq).alloc (.cells #[.int .i64 rf, .int .i64 rl] 43)))
    have HS := hid (src_run ((w.alloc (.cells #[.int .i64 rf, .int .i64 rl] 43)).drewN nq) (w.heap.size + 1) (rf, rl) (by simp))
    clear HHW HH
    go_wp2_with (at_builtin; go_must (refine wl_appR rfl _ _ _ rfl base (.slice a 0 cap) [] rfl HA.out _ [(rf, rl)] rfl HS.out (by simp) (by simp; omega) ?_; intro v' w' k1 k4 k5 k6))
    go_ret
    exact ⟨_, rfl, k1, grownBy_trans HB2.out k4, fun k hk => by rcases k6 k hk with h | h; exact .inl h; exact .inr (by simp at h; omega)⟩
  · have hn : (ys ++ [k]).length = ys.length + 1 := by simp
    obtain ⟨g, cap, rfl, hbg, hg, c0', c1', f0', f1'⟩ := h.at ys.length (by omega)
    have ek : (ys ++ [k])[ys.length]'(by omega) = k := by simp
    rw [ek] at c0' c1'
    have hk := hx k (by simp)
    obtain ⟨⟨hk1, hk2⟩, hk3, hk4⟩ := hk
    obtain ⟨kf, kl⟩ := k
    dsimp only at c0' c1' hk1 hk2 hk3 hk4
    have hgw := (h.lt g rfl).2
    have HH := hid h
    have HHW := hid HW
    rw [hn] at HH HHW ⊢
    have hys : ys.length ≤ 1000000 := by omega
    have hput := putR_snoc ys (kf, kl) (rf, rl)
    dsimp only at hput
    have HP := hid hput
    have HN := hid hn
    clear h hx HW ek hn hput hl hg
    generalize hyl : ys.length = m at *
    have HM := hid hyl
    clear hyl
    have e1 : IntKind.i64.wrap (kf + kl) = kf + kl := IntWalk.i64_in _ (by omega)
    have e2 : IntKind.i64.wrap (kl + rl) = kl + rl := IntWalk.i64_in _ (by omega)
    have hgne : ¬ w.heap.size = g := by omega
    have hgne2 : ¬ g = w.heap.size := by omega
    have i1 : (m : Int) < ((m + 1 : Nat) : Int) := by omega
    have i2 : (0 : Int) ≤ (m : Int) := by omega
    by_cases hm : kf + kl = rf
    · have t1 : ((kf + kl : Int) == rf) = true := by simpa using hm
      go_enter Try.func66, Try.ntmps66
      go_wp2_with fail
      go_quiet (fail)
      go_wp2_with fail
      go_region
      all_goals
        go_wp2_with fail
        go_ret
        refine ⟨_, rfl, ?_, grownBy_setCell (only_drewN (World.grownBy_alloc w _ _) _) _ _, fun k hk => .inl hk⟩
        obtain rfl := HM.out
        have h1 := OwnR.setLen (HHW.out.ext ((Ext.refl _).drewN (nq + 1))) ys.length (by simp) (kl + rl) HN.out.symm
        rw [HP.out, if_pos hm]
        have e : (ys ++ [(kf, kl)]).set ys.length (((ys ++ [(kf, kl)])[ys.length]'(by simp)).1, kl + rl) = ys ++ [(kf, kl + rl)] := by simp
        rw [e] at h1
        exact h1
    · have t1 : ((kf + kl : Int) == rf) = false := by simpa using hm
      go_enter Try.func66, Try.ntmps66
      go_wp2_with fail
      go_quiet (fail)
      have HB2 := hid (show w.grownBy ((((w.alloc (.cells #[.int .i64 rf, .int .i64 rl] 43)).drewN nq)).alloc (.cells #[.int .i64 rf, .int .i64 rl] 43)) (Value.slice (some ⟨g, 0, none⟩) (m + 1) cap).ownBlock from only_alloc (only_drewN (World.grownBy_alloc w _ _) nq) _)
      have HA := hid (HHW.out.ext (((Ext.refl _).drewN nq).alloc (.cells #[.int .i64 rf, .int .i64 rl] 43)))
      have HS := hid (src_run ((w.alloc (.cells #[.int .i64 rf, .int .i64 rl] 43)).drewN nq) (w.heap.size + 1) (rf, rl) (by simp))
      have hl2 : (ys ++ [(kf, kl)]).length ≤ 1000001 := by rw [HN.out]; omega
      clear HHW HH t1 e1 e2
      go_wp2_with (at_builtin; go_must (refine wl_appR rfl _ _ _ rfl base (.slice (some ⟨g, 0, none⟩) (m + 1) cap) (ys ++ [(kf, kl)]) rfl HA.out _ [(rf, rl)] rfl HS.out (by simp only [List.length_singleton]; omega) (by simp; omega) ?_; intro v' w' k1 k4 k5 k6))
      go_ret
      exact ⟨_, rfl, by rw [HP.out, if_neg hm]; exact k1, grownBy_trans HB2.out k4, fun k hk => by rcases k6 k hk with h | h; exact .inl h; exact .inr (by simp at h; omega)⟩
end Go.Proofs.Ytbpcgfplokkfpaa
