/- listed: the runs that All gives, left early behind so many: walked. -/
import Derived.Test.YtbpcgfplokkfpaaAlR
import Derived.Test.YtbpcgfplokkfpaaRAlB
import Derived.OwnWalkIn
namespace Go.Proofs.Ytbpcgfplokkfpaa
open Go.RowKit Go.Shelf
set_option linter.unusedVariables false
set_option linter.unusedSimpArgs false
attribute [local go_sem] Oper.semAt_some

theorem foldl_putR_pre (R : List Int) : ∀ (l m : List Run), m ≠ [] → ∃ m', R.foldl (fun l b => putR l (b, 1)) (l ++ m) = l ++ m' ∧ m' ≠ [] := by
  induction R with
  | nil => intro l m h; exact ⟨m, rfl, h⟩
  | cons b R ih =>
    intro l m h
    rw [List.foldl_cons]
    rcases snoc_cases m with rfl | ⟨m0, k, rfl⟩
    · exact absurd rfl h
    · rw [← List.append_assoc, putR_snoc]
      split
      · rw [List.append_assoc]; exact ih l _ (by simp)
      · rw [List.append_assoc, List.append_assoc]; exact ih l _ (by simp)
theorem listed_pre {L : List Nat} {pre : List (Nat × Nat)} {x : Nat × Nat} (hc : Canon (pre ++ [x])) (hp : flat (pre ++ [x]) <+: L) : (whole (natI L)).take pre.length = pre.map runI := by
  have hx := hc.1 x (by simp)
  have hcp : Canon pre := ⟨fun r hr => hc.1 r (by simp [hr]), (List.pairwise_append.1 hc.2).1⟩
  obtain ⟨t, ht⟩ := hp
  obtain ⟨a, k⟩ := x
  dsimp only at hx
  obtain ⟨d, rfl⟩ : ∃ d, k = d + 1 := ⟨k - 1, by omega⟩
  have e : natI L = natI (flat pre) ++ (a : Int) :: natI (List.range' (a + 1) d ++ t) := by
    rw [← ht, flat_append, flat_one]
    show natI (flat pre ++ List.range' a (d + 1) ++ t) = _
    rw [List.range'_succ]
    simp [natI]
  have h1 : whole (natI L) = (natI (List.range' (a + 1) d ++ t)).foldl (fun l b => putR l (b, 1)) (putR (whole (natI (flat pre))) ((a : Int), 1)) := by
    rw [e]; unfold whole; rw [List.foldl_append, List.foldl_cons]
  have h2 : putR (whole (natI (flat pre))) ((a : Int), 1) = pre.map runI ++ [((a : Int), 1)] := by
    rw [show whole (natI (flat pre)) = pre.map runI from (canon_whole hcp).symm]
    rcases snoc_cases pre with rfl | ⟨p0, r, rfl⟩
    · rfl
    · have hgap := (List.pairwise_append.1 hc.2).2.2 r (by simp) (a, d + 1) (by simp)
      dsimp only at hgap
      rw [List.map_append, List.map_singleton, putR_snoc, if_neg]
      simp only [runI]; omega
  obtain ⟨m', hm', -⟩ := foldl_putR_pre (natI (List.range' (a + 1) d ++ t)) (pre.map runI) [((a : Int), 1)] (by simp)
  rw [h1, h2, hm']
  exact List.take_left' (by simp)

theorem wlIn_appRun {w : World} {ops : Array Oper} {rest : List Oper} {o : Oper} {a : Act} {Q : Exit → Act → World → Prop} {l n : Nat} (hgd : o.guard = none) (s x : Operand)
    (ho : o.op = .call { callee := .builtin .append, args := #[s, x], argTypes := #[37, 37] }) (base : Nat)
    (v : Value) (xs : List (Int × Int)) (hs : a.eval s = v) (happ : OwnS rRn 43 w base (fun _ => False) v xs)
    (e : Int × Int) (h0 : -9223372036854775808 ≤ e.1 ∧ e.1 ≤ 9223372036854775807) (h1 : -9223372036854775808 ≤ e.2 ∧ e.2 ≤ 9223372036854775807) (gb : Nat) (hx : a.eval x = .slice (some ⟨gb, 0, none⟩) 1 1)
    (hrow : w.heap[gb]? = some (.cells #[.int .i64 e.1, .int .i64 e.2] 43 (0, 0))) (hl : xs.length ≤ 1000000) (hbase : base ≤ w.heap.size)
    (h : ∀ v' w', OwnS rRn 43 w' base (fun _ => False) v' (xs ++ [e]) → w.grownBy w' v.ownBlock → (∀ k, v'.ownBlock = some k → v.ownBlock = some k ∨ w.heap.size ≤ k) → wpListIn (Fence.wide.inRound l) n Try.prog ops Q rest (a.put o.dst v') w') :
    wpListIn (Fence.wide.inRound l) n Try.prog ops Q (o :: rest) a w := by
  refine wpListIn_plain hgd fun K hK => ?_
  have hh : o.wp Try.prog a w K Q := by
    refine wp_appS rRn s x 37 37 43 _ 16 ho Try.underlying37 infoRun rfl base _ v xs hs happ _ [([.int .i64 e.1, .int .i64 e.2], e)] hx ?_ ?_ (fun _ h => h.elim) (by simp; omega) (by simp; omega) hbase ?_
    · refine src_row Try.underlying37 hrow (fun u hu => ?_) rfl
      simp only [cellsOf, List.flatMap_cons, List.flatMap_nil, List.append_nil, List.mem_cons, List.not_mem_nil, or_false] at hu
      rcases hu with rfl | rfl <;> rfl
    · intro p hp
      obtain rfl := List.mem_singleton.1 hp
      exact ⟨[_], _, rfl, ⟨rfl, h0⟩, rfl, h1⟩
    · intro v' w' k1 k2 k3
      exact hK _ _ (h v' w' k1 k2 k3)
  unfold Oper.wp at hh
  unfold Oper.wpIn
  refine ⟨fun _ _ => trivial, ?_⟩
  rw [Oper.semAt_plain _ _ _ (by rw [ho]; intro c hc'; cases hc')]
  generalize (execOp a.eval o).run Try.prog w = r at hh ⊢
  cases r with
  | ok x w' =>
    cases x
    case enter f args => exact ⟨fun h => by simp [Fence.wide] at h, CallsIn.inRound l (callsIn_wide.2 hh)⟩
    case row row args => exact ⟨fun h => by simp [Fence.wide] at h, fun c cs _ => let ⟨v, w', r, s⟩ := hh c cs; ⟨v, w', r, stepsIn_wide.2 s⟩⟩
    case round => exact (hh : False).elim
    all_goals exact hh
  | halt x w' => cases x <;> first | exact hh | exact (hh : False).elim

/-- between two rounds of listed -/
def LsI (w W : World) (B3 Bl : Nat) (most : Nat) (pre : List (Nat × Nat)) (C : Blk) (V : World) : Prop :=
  C Bl ∧ ¬ C B3 ∧ V.heap[B3]? = some (.cells #[.int .i64 (most : Int)] 3 (0, 0)) ∧ pre.length ≤ most ∧
    (∃ lv, V.heap[Bl]? = some (.cells #[lv] 37 (0, 0)) ∧ OwnS rRn 43 V W.heap.size (fun _ => False) lv (pre.map runI) ∧ ∀ j, lv.ownBlock = some j → C j) ∧ Ext w V
theorem LsI.stab {w W : World} {B3 Bl most : Nat} {pre : List (Nat × Nat)} {C : Blk} {V V' : World} (h : LsI w W B3 Bl most pre C V) (hk : Keep (fun j => j < W.heap.size ∨ C j) V V') (h3 : B3 < W.heap.size) (hw : w.heap.size ≤ W.heap.size) : LsI w W B3 Bl most pre C V' := by
  obtain ⟨q1, q2, q3, q4, ⟨lv, p1, p2, p3⟩, q5⟩ := h
  refine ⟨q1, q2, (hk.block _ (.inl h3) (Array.getElem?_eq_some_iff.1 q3).1).trans q3, q4, ⟨lv, (hk.block _ (.inr q1) (Array.getElem?_eq_some_iff.1 p1).1).trans p1, p2.kept (hk.mono fun j hj _ => by rcases hj with h | h; exact h.elim; exact .inr (p3 j h)), p3⟩, ?_⟩
  exact q5.keepT (T := fun j => ¬ (j < W.heap.size ∨ C j)) (hk.mono fun j hj _ => Classical.not_not.1 hj) (fun j hj => by
    rcases Nat.lt_or_ge j w.heap.size with h | h
    · exact absurd (.inl (by omega)) hj
    · exact h)

set_option maxRecDepth 100000 in
set_option maxHeartbeats 4000000 in
theorem listed_any (T : Nat → Prop) (w : World) (g : Nat) (now last : List Bool) (h : MapAt T w g now last) (most : Nat) (hmo : most ≤ 1000000) :
    Calls Try.prog 63 #[.pointer (some ⟨g, 0, none⟩), .int .i64 most] w fun e w' => ∃ v, e = .returned v ∧ OwnS rRn 43 w' w.heap.size (fun _ => False) v ((whole (natI (freeIdx now last))).take most) ∧ Ext w w' := by
  have H := hid h
  clear h
  refine (callsIn_wide (n := 6)).1 (callsIn_of_wp_marks Try.func63 rfl trivial ?_ rfl)
  simp only [Try.ntmps63, List.size_toArray, List.length_cons, List.length_nil, Nat.reduceAdd, Nat.reduceSub, Array.replicate_succ, Array.replicate_zero, List.push_toArray, List.append_toArray, List.nil_append, List.cons_append]
  refine wpIn_wide.2 ?_
  go_wp2_with fail
  refine (MapAll_any _ _).mono ?_
  rintro e w' ⟨rfl, rfl⟩
  go_wp2_with fail
  obtain ⟨r1, r2, r3⟩ := rows3 w #[.int .i64 (most : Int)] #[.slice none 0 0] 3 37 #[.pointer (some ⟨g, 0, none⟩)] 34
  have hx : Ext w (((w.alloc (.cells #[.int .i64 (most : Int)] 3)).alloc (.cells #[.slice none 0 0] 37)).alloc (.cells #[.pointer (some ⟨g, 0, none⟩)] 34)) := by (· repeat (first | (with_reducible assumption) | exact Ext.refl _ | refine Ext.alloc ?_ _ | refine Ext.drew ?_ | refine Ext.drewN ?_ _ | (apply Ext.snart; (with_reducible assumption))))
  have hsz : (((w.alloc (.cells #[.int .i64 (most : Int)] 3)).alloc (.cells #[.slice none 0 0] 37)).alloc (.cells #[.pointer (some ⟨g, 0, none⟩)] 34)).heap.size = w.heap.size + 3 := by simp
  generalize (((w.alloc (.cells #[.int .i64 (most : Int)] 3)).alloc (.cells #[.slice none 0 0] 37)).alloc (.cells #[.pointer (some ⟨g, 0, none⟩)] 34)) = W at r1 r2 r3 hx hsz ⊢
  obtain ⟨B3, hB3⟩ : ∃ B3, B3 = w.heap.size := ⟨_, rfl⟩
  rw [← hB3] at r1 r2 r3 ⊢
  have HB3 := hid hB3
  have HX := hid hx
  have HSZ := hid hsz
  have R1 := hid r1
  have R2 := hid r2
  have HM := hid (H.out.ext hx)
  have h0 : LsI w W B3 (B3 + 1) most [] (fun k => k = B3 + 1) W := ⟨rfl, by omega, r1, Nat.zero_le _, ⟨_, r2, OwnS.nil _ _ _ _ _, fun j hj => by simp [Value.ownBlock] at hj⟩, hx⟩
  clear r1 r2 hx hsz hB3
  refine (wpIn_wide (n := 6)).1 ?_
  refine range_runs 6 (by omega) rfl HM.out ((cell_of_row _ _ 0 _ _ _ r3).trans rfl) rfl (fun pre C V => LsI w W B3 (B3 + 1) most pre C V) (fun c pre C V => c = .exit 0 ∧ ∃ pre0 x, pre = pre0 ++ [x] ∧ pre0.length = most ∧ LsI w W B3 (B3 + 1) most pre0 C V)
    (fun s C V V' q hk => q.stab hk (by have h1 := HB3.out; have h2 := HSZ.out; omega) HX.out.size) (fun c s C V V' q hk => ⟨q.1, by obtain ⟨-, pre0, x, e1, e2, e3⟩ := q; exact ⟨pre0, x, e1, e2, e3.stab hk (by have h1 := HB3.out; have h2 := HSZ.out; omega) HX.out.size⟩⟩)
    (fun k => k = B3 + 1) (fun k hk => by have h1 := HB3.out; have h2 := HSZ.out; omega) h0 ?_ ?_ ?_ ?_
  · intro l x V K hK
    simp only [encR]
    gi_wp2
    exact hK _ _ _ (Nat.le_refl _) (heap_alloc_new _ _) ((Ext.refl V).alloc _) (by simp [encR])
  · intro l pre x C V Bx V₂ hI hBx hrx p1 p2 p3 hok
    have HI := hid hI
    obtain ⟨q1, q1', q3, q4, ⟨lv, z1, z2, z3⟩, q5⟩ := hI
    obtain ⟨la, lc, rfl⟩ := z2.slice
    have hlm : (pre.map runI).length = pre.length := List.length_map ..
    rw [hlm] at z1 z2 z3
    have c3 : V₂.cell? ⟨B3, 0, none⟩ = some (.int .i64 (most : Int)) := (cell_of_row _ _ 0 _ _ _ q3).trans rfl
    have cl : V₂.cell? ⟨B3 + 1, 0, none⟩ = some (.slice la pre.length lc) := (cell_of_row _ _ 0 _ _ _ z1).trans rfl
    by_cases hlt : pre.length < most
    · have hge : ¬ (most : Int) ≤ (pre.length : Int) := by omega
      have x0 : V₂.cell? ⟨Bx, 0, none⟩ = some (.int .i64 (x.1 : Int)) := (cell_of_row _ _ 0 _ _ _ hrx).trans rfl
      have x1 : V₂.cell? ⟨Bx, 1, none⟩ = some (.int .i64 (x.2 : Int)) := (cell_of_row _ _ 1 _ _ _ hrx).trans rfl
      have hin := hok.2.2 x (by simp)
      have hsm := (show now.length ≤ 512 by obtain ⟨vn, vl, h1, h2, h3, h4, h5, -⟩ := HM.out; exact h5)
      have HOA := hid (z2.ext ((Ext.refl V₂).alloc (.cells #[.int .i64 (x.1 : Int), .int .i64 (x.2 : Int)] 43)))
      have Z1 := hid z1
      have Z3 := hid z3
      have Q3 := hid q3
      have Q5 := hid q5
      have hWV : W.heap.size ≤ V₂.heap.size := by omega
      have HLM := hid hlm
      have hb1 : B3 + 1 < W.heap.size := by have h1 := HB3.out; have h2 := HSZ.out; omega
      obtain ⟨Bl, hBl⟩ : ∃ Bl, Bl = B3 + 1 := ⟨_, rfl⟩
      rw [← hBl] at cl Z1 hb1 ⊢
      have HBL := hid hBl
      clear hBl z1 z2 z3 q3 q5 hrx hok hlm
      simp only [encR]
      gi_wp2_with (gi_at_builtin; go_must (refine wlIn_appRun rfl _ _ rfl W.heap.size _ (pre.map runI) rfl HOA.out (runI x) (by simp only [runI]; omega) (by simp only [runI]; omega) V₂.heap.size rfl (heap_alloc_new V₂ _) (by rw [List.length_map]; omega) (by simp only [heap_alloc_sz]; omega) ?_; intro v' w' k1 k2 k3; have hnl : ¬ (Value.slice la pre.length lc).ownBlock = some Bl := (fun e => by have := (HOA.out.lt Bl e).1; omega); have hkw : Keep (fun j => ¬ (Value.slice la pre.length lc).ownBlock = some j) V₂ w' := (((Ext.refl V₂).alloc (.cells #[.int .i64 (x.1 : Int), .int .i64 (x.2 : Int)] 43)).keep _).trans ((keep_grown k2).mono fun j hj _ e => hj e.symm); have rl := (hkw.block Bl hnl (Array.getElem?_eq_some_iff.1 Z1.out).1).trans Z1.out; have cl2 := (cell_of_row _ _ 0 _ _ _ rl : w'.cell? ⟨Bl, 0, none⟩ = _); have fl := frozen_blk rl 0; have K1 := hid k1; have K3 := hid k3; have HKW := hid hkw; have RL := hid rl; clear k1 k2 k3 hkw rl hnl; obtain ⟨va, vc, rfl⟩ := K1.out.slice))
      have hlen2 : (pre.map runI ++ [runI x]).length = pre.length + 1 := by rw [List.length_append, List.length_map]; rfl
      rw [hlen2] at K1 K3
      have hnl : ¬ (Value.slice la pre.length lc).ownBlock = some Bl := fun e => by have := (HOA.out.lt Bl e).1; omega
      have hn3 : ¬ (Value.slice la pre.length lc).ownBlock = some B3 := fun e => by have h1 := (HOA.out.lt B3 e).1; have := HBL.out; omega
      have hsz' := HKW.out.size
      have hks : ∀ S : Nat → Prop, ¬ S Bl → Keep S w' (w'.setCell ⟨Bl, 0, none⟩ (.slice va (pre.length + 1) vc)) := fun S h => (Keep.refl S w').setCell (p := ⟨Bl, 0, none⟩) h _
      have q1b : C Bl := by rw [HBL.out]; exact q1
      have hx2 : Ext w w' := Q5.out.keepT (T := fun j => (Value.slice la pre.length lc).ownBlock = some j) HKW.out (fun j hj => by have h1 := (HOA.out.lt j hj).1; have h2 := HX.out.size; omega)
      refine ⟨fun j => C j ∨ (Value.slice va (pre.length + 1) vc).ownBlock = some j, ⟨(HKW.out.mono fun j hj _ e => hj (.inl (Z3.out j e))).trans (hks _ fun h => h (.inl q1b)), fun k hk => ?_⟩, .inl q1b, fun h => ?_, ?_, (by rw [List.length_append, List.length_singleton]; omega), ⟨_, (set_blk RL.out _).trans (by simp <;> rfl), ?_, fun j hj => .inr hj⟩, hx2.setCell (p := ⟨Bl, 0, none⟩) (by have h1 := HBL.out; have h2 := HB3.out; dsimp only; omega) _⟩
      · simp only [heap_setCell_sz]
        rcases hk with h | h
        · have := p3 k h
          exact ⟨.inl (.inl h), by omega⟩
        · refine ⟨?_, (K1.out.lt k h).2⟩
          rcases K3.out k h with h1 | h1
          · exact .inl (.inl (Z3.out k h1))
          · simp only [heap_alloc_sz] at h1
            exact .inr (by omega)
      · rcases h with h | h
        · exact q1' h
        · have h1 := (K1.out.lt B3 h).1
          have := HBL.out
          omega
      · exact (Below.heap_setCell _ _ _ _ (show B3 ≠ Bl from fun e => by have := HBL.out; omega)).trans ((HKW.out.block B3 hn3 (Array.getElem?_eq_some_iff.1 Q3.out).1).trans Q3.out)
      · rw [List.map_append, List.map_singleton]
        exact K1.out.kept (hks _ fun h => by
          rcases h with h | h
          · exact h
          · have := (K1.out.lt Bl h).1; omega)
    · have hge : (most : Int) ≤ (pre.length : Int) := by omega
      have hpm : pre.length = most := by omega
      have HPM := hid hpm
      clear hpm q3 q4 z1 z2 z3 q5 hrx hok hlt
      simp only [encR]
      gi_wp2
      exact ⟨C, ⟨Keep.refl _ _, fun k hk => ⟨.inl (.inl hk), by have := p3 k hk; omega⟩⟩, rfl, pre, x, rfl, HPM.out, HI.out⟩
  · intro D xs C V hD hCD hS hI hdef
    obtain ⟨q1, q1', q3, q4, ⟨lv, z1, z2, z3⟩, q5⟩ := hI
    have cl : V.cell? ⟨B3 + 1, 0, none⟩ = some lv := (cell_of_row _ _ 0 _ _ _ z1).trans rfl
    have HD := hid hdef
    have Q := hid (And.intro q4 (And.intro z2 (And.intro z3 q5)))
    have HS := hid hS
    clear q3 q4 z1 z2 z3 q5 hS hdef
    go_wp2_with fail
    refine ⟨by simp, .inl ⟨_, _, rfl, run_takeDeferred HD.out, ?_⟩⟩
    refine ⟨lv, by simp [results, Try.results63, go_sem], lv, rfl, ?_, ?_⟩
    · have hl : xs.map runI = (whole (natI (freeIdx now last))).take most := by
        have h1 : xs.map runI = whole (natI (flat xs)) := canon_whole HS.out.1
        rw [HS.out.2.1] at h1
        rw [← h1, List.take_of_length_le]
        rw [List.length_map]; exact Q.out.1
      rw [← hl]
      exact (Q.out.2.1.low HX.out.size).kept (keep_putObj V D _ fun h => by rcases h with h | h; exact h; exact hCD (Q.out.2.2.1 D h))
    · exact Q.out.2.2.2.keepT (T := fun j => j = D) (keep_putObj V D _ (fun h => h rfl)) (fun j hj => by have := HX.out.size; omega)
  · intro D c pre C V hD hCD hok hix hdef
    obtain ⟨rfl, pre0, x, rfl, hlen, hI⟩ := hix
    obtain ⟨q1, q1', q3, q4, ⟨lv, z1, z2, z3⟩, q5⟩ := hI
    have cl : V.cell? ⟨B3 + 1, 0, none⟩ = some lv := (cell_of_row _ _ 0 _ _ _ z1).trans rfl
    have HD := hid hdef
    have Q := hid (And.intro hlen (And.intro z2 (And.intro z3 q5)))
    have HOK := hid hok
    clear q3 q4 z1 z2 z3 q5 hok hdef hlen
    refine wpIn_wide.2 ?_
    go_wp2_with fail
    refine ⟨by simp, .inl ⟨_, _, rfl, run_takeDeferred HD.out, ?_⟩⟩
    refine ⟨lv, by simp [results, Try.results63, go_sem], lv, rfl, ?_, ?_⟩
    · have hl := listed_pre HOK.out.1 HOK.out.2.1
      rw [Q.out.1] at hl
      rw [hl]
      exact (Q.out.2.1.low HX.out.size).kept (keep_putObj V D _ fun h => by rcases h with h | h; exact h; exact hCD (Q.out.2.2.1 D h))
    · exact Q.out.2.2.2.keepT (T := fun j => j = D) (keep_putObj V D _ (fun h => h rfl)) (fun j hj => by have := HX.out.size; omega)
end Go.Proofs.Ytbpcgfplokkfpaa
