/- inode.Read, walked. -/
import Derived.Test.YtbpcgfplokkfpaaNext
import Derived.Test.YtbpcgfplokkfpaaGrown
import Derived.Deep.QuietTactic
import Derived.BigQuiet
namespace Go.Proofs.Ytbpcgfplokkfpaa
open Go.RowKit
set_option linter.unusedVariables false
set_option linter.unusedSimpArgs false

def glued (acc : List Run) (x : Nat) : Bool :=
  match acc.getLast? with
  | some r => decide (r.1 + r.2 = (x : Int))
  | none => false
def readL (l : List UInt8) : Nat → Nat × Bool → List Run → List Run × (Nat × Bool)
  | 0, st, acc => (acc, st)
  | m + 1, st, acc =>
    if st.2 = true then (acc, st)
    else readL l m ((nextF l (nextF l st).2).2.1, (nextF l (nextF l st).2).2.2 || glued acc (nextF l st).1) (acc ++ [(((nextF l st).1 : Int), ((nextF l (nextF l st).2).1 : Int))])
theorem readL_bad (l : List UInt8) (m : Nat) (st : Nat × Bool) (acc : List Run) (h : st.2 = true) : readL l m st acc = (acc, st) := by
  cases m
  · rfl
  · unfold readL; rw [if_pos h]
theorem readL_succ (l : List UInt8) (m : Nat) (at0 f at1 n at2 : Nat) (b1 b2 : Bool) (acc : List Run) (h1 : nextF l (at0, false) = (f, (at1, b1))) (h2 : nextF l (at1, b1) = (n, (at2, b2))) : readL l (m + 1) (at0, false) acc = readL l m (at2, b2 || glued acc f) (acc ++ [((f : Int), (n : Int))]) := by
  rw [readL, if_neg (by simp)]
  rw [h1]
  dsimp only
  rw [h2]
theorem readL_end (l : List UInt8) (m : Nat) (at0 : Nat) (bad : Bool) (acc : List Run) (h : ¬ (0 < m ∧ bad = false)) : readL l m (at0, bad) acc = (acc, (at0, bad)) := by
  by_cases h0 : m = 0
  · subst h0; rfl
  · exact readL_bad l m _ acc (by cases bad; exact absurd ⟨by omega, rfl⟩ h; rfl)
def readF (l : List UInt8) : Option (Int × List Run × Nat) :=
  let s := nextF l (0, false)
  let m := nextF l s.2
  let r := readL l m.1 m.2 []
  if r.2.2 = true ∨ extF 0 (s.1 : Nat) r.1 ≠ 0 then none else some (((s.1 : Nat) : Int), r.1, r.2.1)
theorem readF_of {l : List UInt8} {s0 a0 m0 a1 aE : Nat} {b0 b1 bE : Bool} {X : List Run} (h1 : nextF l (0, false) = (s0, (a0, b0))) (h2 : nextF l (a0, b0) = (m0, (a1, b1))) (h3 : readL l m0 (a1, b1) [] = (X, (aE, bE))) : readF l = if bE = true ∨ extF 0 (s0 : Int) X ≠ 0 then none else some ((s0 : Int), X, aE) := by
  unfold readF
  simp only [h1, h2, h3]
theorem nextF_ex (l : List UInt8) (at0 : Nat) (bad : Bool) (h : at0 ≤ l.length) : ∃ n at1 bad1, nextF l (at0, bad) = (n, (at1, bad1)) ∧ n ≤ 32768 ∧ at1 ≤ l.length := by
  have := nextF_le l (at0, bad) h
  exact ⟨_, _, _, rfl, this.1, this.2⟩
def ReadEnd (w : World) (l : List UInt8) (e : Ending) (w' : World) : Prop :=
  (readF l = none → e = .returned (.tuple #[.pointer none, .int .i64 0, .int .i64 61])) ∧
  (∀ s xs n, readF l = some (s, xs, n) → ∃ g q, e = .returned (.tuple #[.pointer (some ⟨g, 0, none⟩), .int .i64 (n : Nat), .int .i64 0]) ∧ NodeAt w' g q s (expand xs) ∧ NodeOk s (expand xs) ∧ w.heap.size ≤ g ∧ (∀ k, q = some k → w.heap.size ≤ k)) ∧ Ext w w'

theorem CurAt.below {w w' : World} {gb ga gd B : Nat} {v : Value} {l : List UInt8} {st : Nat × Bool} (h : CurAt w gb ga gd v l st) (hb : Below B w w') (h1 : gb < B) (h2 : ga < B) (h3 : gd < B) (h4 : 0 < l.length → ∀ k, v.ownBlock = some k → k < B) : CurAt w' gb ga gd v l st := by
  obtain ⟨c0, hr, ha, hd, hn1, hn2, hn3, hst, hv⟩ := h
  have hk : Keep (fun k => k < B) w w' := ⟨hb.os, hb.tape, hb.output, hb.size, fun k hk _ => hb.block k hk⟩
  exact ⟨hk.cell c0 h1, hr.keep hk h4, by rw [hb.block ga h2]; exact ha, by rw [hb.block gd h3]; exact hd, hn1, hn2, hn3, hst, hv⟩
theorem CurAt.setBad {w : World} {gb ga gd : Nat} {v : Value} {l : List UInt8} {st : Nat × Bool} (h : CurAt w gb ga gd v l st) : CurAt (w.setCell ⟨gd, 0, none⟩ (.bool true)) gb ga gd v l (st.1, true) := by
  obtain ⟨c0, hr, ha, hd, hn1, hn2, hn3, hst, hv⟩ := h
  have hk : Keep (fun k => k ≠ ga ∧ k ≠ gd) w (w.setCell ⟨gd, 0, none⟩ (.bool true)) := (Keep.refl _ w).setCell (by simp) _
  refine ⟨by rw [← c0]; simp [go_sem, hn3], hr.keep hk hv, ?_, ?_, hn1, hn2, hn3, hst, hv⟩
  · rw [Below.heap_setCell _ _ _ _ hn1]; exact ha
  · simp [World.setCell, Array.getElem?_modify, hd]
theorem CurAt.cells {w : World} {gb ga gd : Nat} {v : Value} {l : List UInt8} {st : Nat × Bool} (h : CurAt w gb ga gd v l st) : w.cell? ⟨ga, 0, none⟩ = some (.int .i64 st.1) ∧ w.cell? ⟨gd, 0, none⟩ = some (.bool st.2) ∧ w.frozen? ⟨gd, 0, none⟩ = false := by
  obtain ⟨c0, hr, ha, hd, hn1, hn2, hn3, hst, hv⟩ := h
  exact ⟨by rw [cell_of_row _ _ _ _ _ _ ha]; rfl, by rw [cell_of_row _ _ _ _ _ _ hd]; rfl, by simp [World.frozen?, hd]⟩

set_option maxRecDepth 100000 in
set_option maxHeartbeats 4000000 in
theorem Read_any (w : World) (v : Value) (l : List UInt8) (hv : RdB w v l) :
    Calls Try.prog 50 #[v] w (ReadEnd w l) := by
  obtain ⟨a, cap, rfl, hc1, hc2, -, hlt0⟩ := id hv
  have HVB := hid (show 0 < l.length → ∀ k, (Value.slice a l.length cap).ownBlock = some k → k < w.heap.size by
    intro h k hk
    obtain ⟨g, o, rfl, hg, -⟩ := hlt0 h
    simp only [Value.ownBlock, Option.map_some, Option.some.injEq] at hk
    omega)
  have hxa : Ext w (((w.alloc (.cells #[.slice a l.length cap] 50)).alloc (.cells #[.int .i64 0] 3)).alloc (.cells #[.bool false] 4)) := (((Ext.refl w).alloc _).alloc _).alloc _
  have HC := hid (show CurAt (((w.alloc (.cells #[.slice a l.length cap] 50)).alloc (.cells #[.int .i64 0] 3)).alloc (.cells #[.bool false] 4)) w.heap.size (w.heap.size + 1) (w.heap.size + 1 + 1) (.slice a l.length cap) l (0, false) from
    ⟨by simp [go_sem], hv.ext hxa, by rw [Below.block ((Ext.refl ((w.alloc (.cells #[.slice a l.length cap] 50)).alloc (.cells #[.int .i64 0] 3))).alloc _) _ (by simp)]; have := heap_alloc_new (w.alloc (.cells #[.slice a l.length cap] 50)) (.cells #[.int .i64 0] 3); simpa using this, by have := heap_alloc_new ((w.alloc (.cells #[.slice a l.length cap] 50)).alloc (.cells #[.int .i64 0] 3)) (.cells #[.bool false] 4); simpa using this, by omega, by omega, by omega, by simp, fun h k hk => by have := HVB.out h k hk; omega⟩)
  clear hlt0 hc2
  have hsa : (((w.alloc (.cells #[.slice a l.length cap] 50)).alloc (.cells #[.int .i64 0] 3)).alloc (.cells #[.bool false] 4)).heap.size = w.heap.size + 3 := by simp
  have HX := hid hxa
  have hcapI : cap ≤ 9223372036854775807 := by have := hv; obtain ⟨_, _, e, _, h, _⟩ := this; simp only [Value.slice.injEq] at e; obtain ⟨-, -, rfl⟩ := e; unfold maxLen at h; omega
  clear hv hxa
  obtain ⟨s0, a0, b0, hs0, hs1, hs2⟩ := nextF_ex l 0 false (Nat.zero_le _)
  obtain ⟨m0, a1, b1, hm0, hm1, hm2⟩ := nextF_ex l a0 b0 hs2
  obtain ⟨X, aE, bE, hR⟩ : ∃ X aE bE, readL l m0 (a1, b1) [] = (X, (aE, bE)) := ⟨_, _, _, rfl⟩
  have HRF := hid (readF_of hs0 hm0 hR)
  have HS0 := hid hs0
  have HM0 := hid hm0
  have HR0 := hid hR
  clear hs0 hm0 hR
  go_enter Try.func50, Try.ntmps50
  go_wp2_with fail
  skip
  obtain ⟨wa, hwa⟩ : ∃ wa, wa = (((w.alloc (.cells #[.slice a l.length cap] 50)).alloc (.cells #[.int .i64 0] 3)).alloc (.cells #[.bool false] 4)) := ⟨_, rfl⟩
  rw [← hwa] at HC hsa HX ⊢
  clear hwa
  obtain ⟨gd, hgd⟩ : ∃ gd, gd = w.heap.size + 1 + 1 := ⟨_, rfl⟩
  rw [← hgd] at HC ⊢
  obtain ⟨ga, hga⟩ : ∃ ga, ga = w.heap.size + 1 := ⟨_, rfl⟩
  rw [← hga] at HC hgd ⊢
  obtain ⟨gb, hgb⟩ : ∃ gb, gb = w.heap.size := ⟨_, rfl⟩
  rw [← hgb] at HC ⊢
  have hord : w.heap.size ≤ gb ∧ gb < ga ∧ ga < gd ∧ gd < w.heap.size + 3 := by omega
  obtain ⟨ho1, ho2, ho3, ho4⟩ := hord
  clear hgb hga hgd
  skip
  refine (next_eq wa gb ga gd _ l _ _ _ _ _ HC.out HS0.out).mono ?_
  rintro e w1 ⟨rfl, HC1, hk1⟩
  skip
  go_wp2_with fail
  skip
  refine (next_eq w1 gb ga gd _ l _ _ _ _ _ HC1 HM0.out).mono ?_
  rintro e w2 ⟨rfl, HC2, hk2⟩
  skip
  have hx2 : Ext w w2 := Below.trans (Below.trans HX.out (hk1.below w.heap.size (by omega) (fun k hk => ⟨by omega, by omega⟩))) (hk2.below w.heap.size (by have := hk1.size; omega) (fun k hk => ⟨by omega, by omega⟩))
  have hsz2 : w.heap.size + 3 ≤ w2.heap.size := by have := hk1.size; have := hk2.size; omega
  have HC0 := hid HC2
  clear HC HC1 HC2 hk1 hk2 hsa HX HS0 HM0
  go_wp2_with fail
  skip
  go_loopw [9, 10] (fun u9 u10 wr => ∃ m : Nat, ∃ at0 : Nat, ∃ bad : Bool, ∃ acc : List Run, u10 = .int .i64 m ∧ readL l m (at0, bad) acc = (X, (aE, bE)) ∧ acc.length + m ≤ 32768 ∧ (∀ r ∈ acc, (0 ≤ r.1 ∧ r.1 ≤ 32768) ∧ 0 ≤ r.2 ∧ r.2 ≤ 32768) ∧ CurAt wr gb ga gd (.slice a l.length cap) l (at0, bad) ∧ OwnR wr (w.heap.size + 3) u9 acc ∧ w.heap.size + 3 ≤ wr.heap.size ∧ Ext w wr) (fun _ m _ => (intOf m).toNat)
  case atStart => exact ⟨m0, a1, b1, [], rfl, HR0.out, by simp; omega, by simp, HC0.out, OwnR.nil _ _, hsz2, hx2⟩
  case round =>
    obtain ⟨wo, rfl⟩ : ∃ wo : World, wo = wr := ⟨_, rfl⟩
    obtain ⟨m, at0, bad, acc, rfl, hRL, hml, hacc, hcur, hown, hsz, hx⟩ := hrel
    have hat0 : at0 ≤ l.length := by obtain ⟨-, -, -, -, -, -, -, h, -⟩ := hcur; exact h
    have HRL := hid hRL
    have HCUR := hid hcur
    have HOWN := hid hown
    have HACC := hid hacc
    obtain ⟨c1, c2, f2⟩ := hcur.cells
    clear hRL hcur hown hacc hs2 hm1 hm2 HR0 HC0 hsz2 hx2
    by_cases hgo : 0 < m ∧ bad = false
    · obtain ⟨hm, rfl⟩ := hgo
      obtain ⟨m, rfl⟩ : ∃ k, m = k + 1 := ⟨m - 1, by omega⟩
      obtain ⟨f, x1, q1, hf0, hf1, hf2⟩ := nextF_ex l at0 false hat0
      obtain ⟨n, x2, q2, hn0, hn1, hn2⟩ := nextF_ex l x1 q1 hf2
      have HST := hid (HRL.out.symm.trans (readL_succ l m at0 f x1 n x2 q1 q2 acc hf0 hn0))
      have HF0 := hid hf0
      have HN0 := hid hn0
      clear HRL hf0 hn0
      obtain ⟨a9, c9, rfl, -⟩ := HOWN.out.rd.slice
      go_wp2_with fail
      refine (next_eq wo gb ga gd _ l _ _ _ _ _ HCUR.out HF0.out).mono ?_
      rintro e w1 ⟨rfl, HC1, hk1⟩
      have HO1 := HOWN.out.keep hk1 (fun k hk => by have := (HOWN.out.lt k hk).1; omega)
      have HC1' := hid HC1
      have HO1' := hid HO1
      clear c1 c2 f2 HC1 HO1
      go_wp2_with fail
      refine (next_eq w1 gb ga gd _ l _ _ _ _ _ HC1'.out HN0.out).mono ?_
      rintro e w2 ⟨rfl, HC2, hk2⟩
      have HO2 := HO1'.out.keep hk2 (fun k hk => by have := (HO1'.out.lt k hk).1; omega)
      have hx2 : Ext w w2 := Below.trans (Below.trans hx (hk1.below w.heap.size (by omega) (fun k hk => ⟨by omega, by omega⟩))) (hk2.below w.heap.size (by have := hk1.size; omega) (fun k hk => ⟨by omega, by omega⟩))
      have hs2 : w.heap.size + 3 ≤ w2.heap.size := by have := hk1.size; have := hk2.size; omega
      obtain ⟨c1, c2, f2⟩ := HC2.cells
      have HCW := hid HC2
      have HOW := hid HO2
      have HXW := hid hx2
      clear HC2 HO2 hk1 hk2 HCUR HOWN hx hsz hx2 HC1' HO1' HF0 HN0
      have hdne : ¬ w2.heap.size = gd := by omega
      have hdne2 : ¬ gd = w2.heap.size := by omega
      have hfn : ∀ r ∈ acc ++ [((f : Int), (n : Int))], (0 ≤ r.1 ∧ r.1 ≤ 32768) ∧ 0 ≤ r.2 ∧ r.2 ≤ 32768 := by
        intro r hr
        rcases List.mem_append.1 hr with h | h
        · exact HACC.out r h
        · obtain rfl := List.mem_singleton.1 h
          exact ⟨⟨by dsimp only; omega, by dsimp only; omega⟩, by dsimp only; omega, by dsimp only; omega⟩
      have HFN := hid hfn
      clear hfn
      skip
      rcases snoc_cases acc with rfl | ⟨ys, kr, rfl⟩
      · have g1 : decide ((0 : Int) - 1 ≥ 0) = false := by decide
        have HGL := hid (show glued [] f = false from rfl)
        go_wp2_with fail
        skip
        go_quiet (fail)
        skip
        have HO3 := hid (show OwnR ((w2.alloc (.cells #[.int .i64 (f : Int), .int .i64 (n : Int)] 43)).drewN nq) (w.heap.size + 3) (.slice a9 0 c9) ([]) from (HOW.out.ext (((Ext.refl _).alloc _).drewN nq)))
        have HC3 := hid (show CurAt ((w2.alloc (.cells #[.int .i64 (f : Int), .int .i64 (n : Int)] 43)).drewN nq) gb ga gd (.slice a l.length cap) l (x2, q2 || false) from by rw [Bool.or_false]; exact HCW.out.below (B := w2.heap.size) (((Ext.refl w2).alloc _).drewN nq) (by omega) (by omega) (by omega) (fun h k hk => by have := HVB.out h k hk; omega))
        have HX3 := hid (show Ext w ((w2.alloc (.cells #[.int .i64 (f : Int), .int .i64 (n : Int)] 43)).drewN nq) from (HXW.out.alloc _).drewN nq)
        have hs3 : ((w2.alloc (.cells #[.int .i64 (f : Int), .int .i64 (n : Int)] 43)).drewN nq).heap.size = w2.heap.size + 1 := by simp
        have k0 : ((w2.alloc (.cells #[.int .i64 (f : Int), .int .i64 (n : Int)] 43)).drewN nq).cell? ⟨w2.heap.size, 0, none⟩ = some (.int .i64 (f : Int)) := by simp [go_sem, hdne, hdne2]
        have k1 : ((w2.alloc (.cells #[.int .i64 (f : Int), .int .i64 (n : Int)] 43)).drewN nq).cell? ⟨w2.heap.size, 1, none⟩ = some (.int .i64 (n : Int)) := by simp [go_sem, hdne, hdne2]
        have HS := hid (src_run ((w2.alloc (.cells #[.int .i64 (f : Int), .int .i64 (n : Int)] 43)).drewN nq) (w2.heap.size + 1) ((f : Int), (n : Int)) hs3)
        have HOA := hid (HO3.out.ext ((Ext.refl _).alloc (.cells #[.int .i64 (f : Int), .int .i64 (n : Int)] 43)))
        skip
        go_wp2_with (at_builtin; go_must (refine wl_appR rfl _ _ _ rfl (w.heap.size + 3) (.slice a9 0 c9) ([]) rfl HOA.out _ [((f : Int), (n : Int))] rfl HS.out (by simp only [List.length_singleton]; simp only [List.length_nil]; omega) (by simp; omega) ?_; intro v' w' k1 k4 k5 k6))
        go_roundw
        case rel =>
          refine ⟨m, x2, q2 || false, ([]) ++ [((f : Int), (n : Int))], by go_num, by rw [HST.out, HGL.out], by rw [List.length_append]; simp only [List.length_singleton, List.length_nil] at *; omega, HFN.out, (HC3.out.below (B := w.heap.size + 3) ((Below.refl _ _).alloc (by rw [hs3]; omega) _) (by omega) (by omega) (by omega) (fun h k hk => by have := HVB.out h k hk; omega)).below k5 (by omega) (by omega) (by omega) (fun h k hk => by have := HVB.out h k hk; omega), k1, by have := k5.size; simp at this; omega, Below.trans (HX3.out.alloc _) (k5.mono (by omega))⟩
        case measure => simp [intOf]
      · have hn : (ys ++ [kr]).length = ys.length + 1 := by simp
        obtain ⟨gr, cr, e, hbg, hg, c0', c1', f0', f1'⟩ := HOW.out.at ys.length (by omega)
        simp only [Value.slice.injEq] at e
        obtain ⟨rfl, -, rfl⟩ := e
        have ek : (ys ++ [kr])[ys.length]'(by omega) = kr := by simp
        rw [ek] at c0' c1'
        obtain ⟨⟨hk1, hk2⟩, hk3, hk4⟩ := HACC.out kr (by simp)
        have HGL0 := hid (show glued (ys ++ [kr]) f = decide (kr.1 + kr.2 = (f : Int)) by unfold glued; rw [List.getLast?_concat])
        obtain ⟨kf, kl⟩ := kr
        dsimp only at c0' c1' hk1 hk2 hk3 hk4 HGL0
        have e1 : IntKind.i64.wrap (kf + kl) = kf + kl := IntWalk.i64_in _ (by omega)
        have hys : ys.length ≤ 32768 := by omega
        rw [hn] at HOW hml ⊢
        have HN := hid hn
        clear hn ek
        generalize hyl : ys.length = my at *
        have HM := hid hyl
        clear hyl
        have i1 : (my : Int) < ((my + 1 : Nat) : Int) := by omega
        have i2 : (0 : Int) ≤ (my : Int) := by omega
        have hgne : ¬ w2.heap.size = gr := by omega
        have hgne2 : ¬ gr = w2.heap.size := by omega
        by_cases hm : kf + kl = (f : Int)
        · have t1 : ((kf + kl : Int) == (f : Int)) = true := by simpa using hm
          have HGL := hid (show glued (ys ++ [(kf, kl)]) f = true by rw [HGL0.out]; exact decide_eq_true hm)
          go_wp2_with fail
          skip
          go_quiet (fail)
          skip
          have HO3 := hid (show OwnR (((w2.alloc (.cells #[.int .i64 (f : Int), .int .i64 (n : Int)] 43)).drewN nq).setCell ⟨gd, 0, none⟩ (.bool true)) (w.heap.size + 3) (.slice (some ⟨gr, 0, none⟩) (my + 1) c9) (ys ++ [(kf, kl)]) from ((HOW.out.ext (((Ext.refl _).alloc _).drewN nq)).keep ((Keep.refl (fun k => k ≠ gd) _).setCell (by simp) _) (fun k hk => by have := (HOW.out.lt k hk).1; omega)))
          have HC3 := hid (show CurAt (((w2.alloc (.cells #[.int .i64 (f : Int), .int .i64 (n : Int)] 43)).drewN nq).setCell ⟨gd, 0, none⟩ (.bool true)) gb ga gd (.slice a l.length cap) l (x2, q2 || true) from by rw [Bool.or_true]; exact (HCW.out.below (B := w2.heap.size) (((Ext.refl w2).alloc _).drewN nq) (by omega) (by omega) (by omega) (fun h k hk => by have := HVB.out h k hk; omega)).setBad)
          have HX3 := hid (show Ext w (((w2.alloc (.cells #[.int .i64 (f : Int), .int .i64 (n : Int)] 43)).drewN nq).setCell ⟨gd, 0, none⟩ (.bool true)) from ((HXW.out.alloc _).drewN nq).setCell (by simp; omega) _)
          have hs3 : (((w2.alloc (.cells #[.int .i64 (f : Int), .int .i64 (n : Int)] 43)).drewN nq).setCell ⟨gd, 0, none⟩ (.bool true)).heap.size = w2.heap.size + 1 := by simp
          have k0 : (((w2.alloc (.cells #[.int .i64 (f : Int), .int .i64 (n : Int)] 43)).drewN nq).setCell ⟨gd, 0, none⟩ (.bool true)).cell? ⟨w2.heap.size, 0, none⟩ = some (.int .i64 (f : Int)) := by simp [go_sem, hdne, hdne2]
          have k1 : (((w2.alloc (.cells #[.int .i64 (f : Int), .int .i64 (n : Int)] 43)).drewN nq).setCell ⟨gd, 0, none⟩ (.bool true)).cell? ⟨w2.heap.size, 1, none⟩ = some (.int .i64 (n : Int)) := by simp [go_sem, hdne, hdne2]
          have HS := hid (src_run (((w2.alloc (.cells #[.int .i64 (f : Int), .int .i64 (n : Int)] 43)).drewN nq).setCell ⟨gd, 0, none⟩ (.bool true)) (w2.heap.size + 1) ((f : Int), (n : Int)) hs3)
          have HOA := hid (HO3.out.ext ((Ext.refl _).alloc (.cells #[.int .i64 (f : Int), .int .i64 (n : Int)] 43)))
          have c2q : ((w2.alloc (.cells #[.int .i64 (f : Int), .int .i64 (n : Int)] 43)).drewN nq).cell? ⟨gd, 0, none⟩ = some (.bool q2) := Ext.cellS (((Ext.refl w2).alloc _).drewN nq) c2
          have f2q : ((w2.alloc (.cells #[.int .i64 (f : Int), .int .i64 (n : Int)] 43)).drewN nq).frozen? ⟨gd, 0, none⟩ = false := by rw [← f2]; unfold World.frozen?; rw [Below.block (((Ext.refl w2).alloc _).drewN nq) gd (by omega)]
          skip
          go_wp2_with (at_builtin; go_must (refine wl_appR rfl _ _ _ rfl (w.heap.size + 3) (.slice (some ⟨gr, 0, none⟩) (my + 1) c9) (ys ++ [(kf, kl)]) rfl HOA.out _ [((f : Int), (n : Int))] rfl HS.out (by simp only [List.length_singleton]; rw [HN.out]; omega) (by simp; omega) ?_; intro v' w' k1 k4 k5 k6))
          go_roundw
          case rel =>
            refine ⟨m, x2, q2 || true, (ys ++ [(kf, kl)]) ++ [((f : Int), (n : Int))], by go_num, by rw [HST.out, HGL.out], by rw [List.length_append, HN.out]; simp only [List.length_singleton, List.length_nil] at *; omega, HFN.out, (HC3.out.below (B := w.heap.size + 3) ((Below.refl _ _).alloc (by rw [hs3]; omega) _) (by omega) (by omega) (by omega) (fun h k hk => by have := HVB.out h k hk; omega)).below k5 (by omega) (by omega) (by omega) (fun h k hk => by have := HVB.out h k hk; omega), k1, by have := k5.size; simp at this; omega, Below.trans (HX3.out.alloc _) (k5.mono (by omega))⟩
          case measure => simp [intOf]
        · have t1 : ((kf + kl : Int) == (f : Int)) = false := by simpa using hm
          have HGL := hid (show glued (ys ++ [(kf, kl)]) f = false by rw [HGL0.out]; exact decide_eq_false hm)
          go_wp2_with fail
          skip
          go_quiet (fail)
          skip
          have HO3 := hid (show OwnR ((w2.alloc (.cells #[.int .i64 (f : Int), .int .i64 (n : Int)] 43)).drewN nq) (w.heap.size + 3) (.slice (some ⟨gr, 0, none⟩) (my + 1) c9) (ys ++ [(kf, kl)]) from (HOW.out.ext (((Ext.refl _).alloc _).drewN nq)))
          have HC3 := hid (show CurAt ((w2.alloc (.cells #[.int .i64 (f : Int), .int .i64 (n : Int)] 43)).drewN nq) gb ga gd (.slice a l.length cap) l (x2, q2 || false) from by rw [Bool.or_false]; exact HCW.out.below (B := w2.heap.size) (((Ext.refl w2).alloc _).drewN nq) (by omega) (by omega) (by omega) (fun h k hk => by have := HVB.out h k hk; omega))
          have HX3 := hid (show Ext w ((w2.alloc (.cells #[.int .i64 (f : Int), .int .i64 (n : Int)] 43)).drewN nq) from (HXW.out.alloc _).drewN nq)
          have hs3 : ((w2.alloc (.cells #[.int .i64 (f : Int), .int .i64 (n : Int)] 43)).drewN nq).heap.size = w2.heap.size + 1 := by simp
          have k0 : ((w2.alloc (.cells #[.int .i64 (f : Int), .int .i64 (n : Int)] 43)).drewN nq).cell? ⟨w2.heap.size, 0, none⟩ = some (.int .i64 (f : Int)) := by simp [go_sem, hdne, hdne2]
          have k1 : ((w2.alloc (.cells #[.int .i64 (f : Int), .int .i64 (n : Int)] 43)).drewN nq).cell? ⟨w2.heap.size, 1, none⟩ = some (.int .i64 (n : Int)) := by simp [go_sem, hdne, hdne2]
          have HS := hid (src_run ((w2.alloc (.cells #[.int .i64 (f : Int), .int .i64 (n : Int)] 43)).drewN nq) (w2.heap.size + 1) ((f : Int), (n : Int)) hs3)
          have HOA := hid (HO3.out.ext ((Ext.refl _).alloc (.cells #[.int .i64 (f : Int), .int .i64 (n : Int)] 43)))
          skip
          go_wp2_with (at_builtin; go_must (refine wl_appR rfl _ _ _ rfl (w.heap.size + 3) (.slice (some ⟨gr, 0, none⟩) (my + 1) c9) (ys ++ [(kf, kl)]) rfl HOA.out _ [((f : Int), (n : Int))] rfl HS.out (by simp only [List.length_singleton]; rw [HN.out]; omega) (by simp; omega) ?_; intro v' w' k1 k4 k5 k6))
          go_roundw
          case rel =>
            refine ⟨m, x2, q2 || false, (ys ++ [(kf, kl)]) ++ [((f : Int), (n : Int))], by go_num, by rw [HST.out, HGL.out], by rw [List.length_append, HN.out]; simp only [List.length_singleton, List.length_nil] at *; omega, HFN.out, (HC3.out.below (B := w.heap.size + 3) ((Below.refl _ _).alloc (by rw [hs3]; omega) _) (by omega) (by omega) (by omega) (fun h k hk => by have := HVB.out h k hk; omega)).below k5 (by omega) (by omega) (by omega) (fun h k hk => by have := HVB.out h k hk; omega), k1, by have := k5.size; simp at this; omega, Below.trans (HX3.out.alloc _) (k5.mono (by omega))⟩
          case measure => simp [intOf]
    · have hRe := HRL.out.symm.trans (readL_end l m at0 bad acc hgo)
      simp only [Prod.mk.injEq] at hRe
      obtain ⟨rfl, rfl, rfl⟩ := hRe
      obtain ⟨a9, c9, rfl, -⟩ := HOWN.out.rd.slice
      have HXO := hid hx
      have hfr : w.heap.size ≤ wo.heap.size := by omega
      have hgal : ga < wo.heap.size := by omega
      clear HRL hx
      by_cases hb : bE = true
      · subst hb
        have HN := hid (HRF.out.trans (if_pos (.inl rfl)))
        have hex : m = 0 ∨ 0 < m := by omega
        rcases hex with rfl | hm
        all_goals
          go_wp2_with (go_at_call 39; go_must (refine Calls.mono (nodeNew_any _) ?_; rintro e w' ⟨g, rfl, HNN, hg', hb'⟩; have hx' := Ext.of hb'; clear hb'; have c2' := hx'.cellS c2; clear c2))
          skip
          go_ret3
          exact ⟨fun _ => rfl, fun s xs n h => absurd (HN.out.symm.trans h) (by simp), HXO.out.trans hx'⟩
      · have hbf : bE = false := by simpa using hb
        subst hbf
        have hm0 : m = 0 := by
          by_cases h : m = 0
          · exact h
          · exact absurd ⟨by omega, rfl⟩ hgo
        subst hm0
        have hRO : ∀ r ∈ X, RunOk r := fun r hr => by have := HACC.out r hr; unfold RunOk; omega
        have HRO := hid hRO
        clear hRO hb hgo
        by_cases hE : extF 0 (s0 : Int) X = 0
        · have HN := hid (HRF.out.trans (if_neg (by simp [hE])))
          have HE := hid hE
          clear hE
          go_wp2_with (first | (have HK := hk2; fail) | (have HNN' := HNN; go_at_call 41; go_must (refine (nodeExtend_any _ g none 0 (s0 : Int) [] HNN NodeOk.empty ⟨by omega, by omega⟩ _ X (HOWN.out.rd.ext hx') HRO.out).mono ?_; rintro e w2 he; rcases ExtEnd.ok he HE.out with ⟨rfl, q2, HN2, hk2, hq2⟩; clear he; have c1'' := hk2.cell c1' (by show ga ≠ g; omega); clear c1')) | (go_at_call 39; go_must (refine Calls.mono (nodeNew_any _) ?_; rintro e w' ⟨g, rfl, HNN, hg', hb'⟩; have hx' := Ext.of hb'; clear hb'; have c2' := hx'.cellS c2; clear c2; have c1' := hx'.cellS c1; clear c1)))
          go_quiet (fail)
          go_wp2_with fail
          go_ret3
          refine ⟨fun h => absurd (HN.out.symm.trans h) (by simp), fun s xs n h => ?_, (Ext.keepStep (HXO.out.trans hx') hk2 (by omega)).drewN nq⟩
          have he := HN.out.symm.trans h
          simp only [Option.some.injEq, Prod.mk.injEq] at he
          obtain ⟨rfl, rfl, rfl⟩ := he
          have hok := (ext_ok NodeOk.empty HE.out).1
          rw [Int.zero_add, List.nil_append] at hok HN2
          exact ⟨g, q2, rfl, HN2.ext ((Ext.refl _).drewN nq), hok, by omega, fun k hk => by rcases hq2 with h | h; rw [h] at hk; exact absurd hk (by simp); have := h k hk; have := hx'.size; omega⟩
        · have HN := hid (HRF.out.trans (if_pos (.inr hE)))
          have t0 : (extF 0 (s0 : Int) X == 0) = false := by simpa using hE
          have HE := hid hE
          clear hE
          go_wp2_with (first | (have HNN' := HNN; go_at_call 41; go_must (refine (nodeExtend_any _ g none 0 (s0 : Int) [] HNN NodeOk.empty ⟨by omega, by omega⟩ _ X (HOWN.out.rd.ext hx') HRO.out).mono ?_; rintro e w2 ⟨rfl, q2, -, hk2, -⟩)) | (go_at_call 39; go_must (refine Calls.mono (nodeNew_any _) ?_; rintro e w' ⟨g, rfl, HNN, hg', hb'⟩; have hx' := Ext.of hb'; clear hb'; have c2' := hx'.cellS c2; clear c2; have c1' := hx'.cellS c1; clear c1)))
          go_ret3
          exact ⟨fun _ => rfl, fun s xs n h => absurd (HN.out.symm.trans h) (by simp), Ext.keepStep (HXO.out.trans hx') hk2 (by omega)⟩
end Go.Proofs.Ytbpcgfplokkfpaa
