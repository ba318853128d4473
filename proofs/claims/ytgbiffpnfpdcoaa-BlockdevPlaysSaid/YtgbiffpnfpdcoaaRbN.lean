/- cartularyref02.Device: Blocks, Crash, Copy. -/
import Derived.Test.YtgbiffpnfpdcoaaRbM
import Derived.Test.YtgbiffpnfpdcoaaBdN

/- cartularyref02.Device: Blocks, Crash. -/
namespace Go.Proofs.Ytgbiffpnfpdcoaa
open Go.RowKit Go.Maps
set_option linter.unusedVariables false
set_option linter.unusedSimpArgs false

/-- append of one element -/
theorem wl_app1 {α : Type} (r : Rdr α) {w : World} {ops : Array Oper} {rest : List Oper} {o : Oper} {a : Act} {Q : Exit → Act → World → Prop} (hgd : o.guard = none) (s x : Operand) (tl te : TypeId) (z : Value) (bytes : Nat)
    (ho : o.op = .call { callee := .builtin .append, args := #[s, x], argTypes := #[tl, tl] }) (hts : Try.prog.underlying tl = some (.slice te)) (hinfo : (Try.prog.info? te).map (fun i => (i.zero, i.size, i.bytes)) = some (some z, r.size, bytes)) (hzs : z.cells.size = r.size)
    (B : Nat) (hB : B ≤ w.heap.size) (v : Value) (xs : List α) (hs : a.eval s = v) (happ : OwnS r te w B (fun _ => False) v xs)
    (cs : List Value) (y : α) (hrd : r.rd w (fun _ => False) cs y) (gb : Nat) (hx : a.eval x = .slice (some ⟨gb, 0, none⟩) 1 1) (hrow : w.heap[gb]? = some (.cells cs.toArray te (0, 0))) (hb : bytes ≤ 1000) (hl : xs.length ≤ 1000000000)
    (h : ∀ v' w', OwnS r te w' B (fun _ => False) v' (xs ++ [y]) → w.grownBy w' v.ownBlock → (∀ k, v'.ownBlock = some k → v.ownBlock = some k ∨ w.heap.size ≤ k) → wpList Try.prog ops Q rest (a.put o.dst v') w') : wpList Try.prog ops Q (o :: rest) a w := by
  have hm : (xs.length + 1) * bytes ≤ 1000000001 * 1000 := Nat.mul_le_mul (by omega) hb
  refine wl_appS r hgd s x tl tl te z bytes ho hts hinfo hzs B (fun _ => False) v xs hs happ _ [(cs, y)] hx ?_ ?_ (fun _ h => h.elim) (by simp; omega) (by simp; omega) hB ?_
  · have := src_row hts hrow (r.one hrd) (by rw [r.len hrd, Nat.one_mul])
    simpa [cellsOf] using this
  · intro p hp
    obtain rfl := List.mem_singleton.1 hp
    exact hrd
  · intro v' w' k1 k2 k3
    exact h v' w' k1 k2 k3
theorem infoI1 : (Try.prog.info? 3).map (fun i => (i.zero, i.size, i.bytes)) = some (some (.int .i64 0), rI.size, 8) := by kernel_rfl
/-- some of the first ones is to n -/
def anyP (P : List (Int × Bk)) (n : Int) : Bool := P.any fun p => decide (p.1 = n)
theorem anyP_snoc (P : List (Int × Bk)) (p : Int × Bk) (n : Int) : anyP (P ++ [p]) n = (anyP P n || decide (p.1 = n)) := by unfold anyP; simp
theorem anyP_sel (P : List (Int × Bk)) (n : Int) : anyP P n = decide (selP P n ≠ []) := by
  unfold anyP selP
  rw [Bool.eq_iff_iff, List.any_eq_true, decide_eq_true_eq]
  simp only [ne_eq, List.map_eq_nil_iff, List.filter_eq_nil_iff, decide_eq_true_eq]
  constructor
  · rintro ⟨p, h1, h2⟩ h3; exact h3 p h1 h2
  · intro h3
    by_cases h : ∃ p ∈ P, p.1 = n
    · exact h
    · exact absurd (fun p hp e => h ⟨p, hp, e⟩) h3
/-- the first ones of those that are pending -/
def pendTo (d : Dv) (i : Nat) : List Int := ((List.range i).filter fun (k : Nat) => decide (d.pend (k : Int) ≠ [])).map fun (k : Nat) => (k : Int)
theorem pendTo_next (d : Dv) (i : Nat) : pendTo d (i + 1) = if d.pend (i : Int) ≠ [] then pendTo d i ++ [(i : Int)] else pendTo d i := by
  unfold pendTo
  rw [List.range_succ, List.filter_append, List.map_append]
  by_cases h : d.pend (i : Int) = []
  · simp [h]
  · simp [h]
theorem pendTo_all (d : Dv) : pendTo d d.safe.length = pendL d := rfl
theorem pendTo_len (d : Dv) (i : Nat) : (pendTo d i).length ≤ i := by
  unfold pendTo
  rw [List.length_map]
  exact Nat.le_trans (List.length_filter_le _ _) (by rw [List.length_range]; exact Nat.le_refl _)

set_option maxRecDepth 100000 in
set_option maxHeartbeats 2000000 in
theorem RBlocks_any {w : World} {B M g : Nat} {sv pv : Value} {rf : Int} {d : Dv} {P : List (Int × Bk)} (h : RAt w B M g sv pv rf d P) (hM : M ≤ 1000000) :
    Calls Try.prog 65 #[.pointer (some ⟨g, 0, none⟩)] w fun e w' => ∃ v, e = .returned v ∧ OwnS rI 3 w' w.heap.size (fun _ => False) v (pendL d) ∧ Ext w w' := by
  obtain ⟨sa, sc, hsv⟩ := h.safe.slice
  subst hsv
  obtain ⟨pa, pc, hpv⟩ := h.pend.slice
  subst hpv
  have c0 := h.c0
  have c1 := h.c1
  have hml := h.many
  obtain ⟨hs1, hs2⟩ := h.size
  have H := hid h
  clear h
  go_enter Try.func65, Try.ntmps65
  go_wp2_with fail
  go_loopw [3, 4] (fun u3 u4 wr => ∃ (i : Nat), u4 = .int .i64 i ∧ i ≤ d.safe.length ∧ OwnS rI 3 wr w.heap.size (fun _ => False) u3 (pendTo d i) ∧ Ext w wr) (fun _ u4 _ => d.safe.length - (intOf u4).toNat)
  case atStart => exact ⟨0, rfl, Nat.zero_le _, OwnS.nil _ _ _ _ _, Ext.refl _⟩
  case round =>
    obtain ⟨i, rfl, hi, hown, hx⟩ := hrel
    have HOWN := hid hown
    have HX := hid hx
    have c0 := Ext.cellS hx c0
    have c1 := Ext.cellS hx c1
    have hzx := hx.size
    obtain ⟨la, lc, hlv⟩ := hown.slice
    subst hlv
    clear hown hx
    by_cases hlt : i < d.safe.length
    · have i1 : (i : Int) < (d.safe.length : Int) := by omega
      have hw1 : IntKind.i64.wrap ((i : Int) + 1) = (i : Int) + 1 := by rw [IntKind.wrap_i64]; omega
      go_wp2_with fail
      go_loopw [5, 6] (fun u5 u6 wq => ∃ j : Nat, u5 = .bool (anyP (P.take j) i) ∧ u6 = .int .i64 j ∧ j ≤ P.length ∧ Ext wr wq) (fun _ u6 _ => P.length - (intOf u6).toNat)
      case atStart => exact ⟨0, rfl, rfl, Nat.zero_le _, Ext.refl _⟩
      case round =>
        obtain ⟨j, rfl, rfl, hj, hxj⟩ := hrel
        have c0 := Ext.cellS hxj c0
        have c1 := Ext.cellS hxj c1
        have HXJ := hid hxj
        by_cases hlj : j < P.length
        · obtain ⟨gp, op, cp, e, -, -, q0, -⟩ := (H.out.pend.ext (HX.out.trans hxj)).rd.atWS j hlj
          simp only [Value.slice.injEq] at e
          obtain ⟨rfl, -, rfl⟩ := e
          have hst : anyP (P.take (j + 1)) i = (anyP (P.take j) i || decide (P[j].1 = i)) := by rw [← List.take_append_getElem hlj, anyP_snoc]
          generalize P[j] = x at q0 hst
          obtain ⟨xn, xb⟩ := x
          dsimp only at q0 hst
          generalize anyP (P.take j) i = q at hst ⊢
          have HST := hid hst
          have i2 : (j : Int) < (P.length : Int) := by omega
          have hw2 : IntKind.i64.wrap ((j : Int) + 1) = (j : Int) + 1 := by rw [IntKind.wrap_i64]; omega
          clear hst
          by_cases hb : xn = i <;> cases q
          all_goals
            go_wp2_with fail
            refine ⟨⟨j + 1, ?_, rfl, by omega, ?_⟩, by simp only [intOf]; omega⟩
            · rw [HST.out]; first | rfl | (simp [hb]; done) | (congr 1; rw [Bool.eq_iff_iff]; simp [hb]; done)
            · (· repeat (first | (with_reducible assumption) | exact Ext.refl _ | refine Ext.alloc ?_ _ | refine Ext.drew ?_ | refine Ext.drewN ?_ _ | (apply Ext.snart; (with_reducible assumption))))
        · have hie : j = P.length := by omega
          subst hie
          have i2 : ¬ (P.length : Int) < (P.length : Int) := by omega
          rw [List.take_length, anyP_sel, ← H.out.rel]
          have hnx := pendTo_next d i
          have hown := HOWN.out.ext hxj
          have hpl := pendTo_len d i
          have hzj := hxj.size
          have HXJ2 := hid (HX.out.trans hxj)
          by_cases hp : d.pend (i : Int) = []
          · rw [if_neg (by simp [hp])] at hnx
            have hdq : decide (d.pend (i : Int) ≠ []) = false := by simp [hp]
            rw [hdq]
            have HNX := hid hnx
            have HOW := hid hown
            clear hnx hown hp hdq
            go_wp2_with fail
            exact ⟨⟨i + 1, rfl, by omega, by rw [HNX.out]; exact HOW.out, HXJ2.out⟩, by simp only [intOf]; omega⟩
          · rw [if_pos hp] at hnx
            have hdq : decide (d.pend (i : Int) ≠ []) = true := by simp [hp]
            rw [hdq]
            have HNX := hid hnx
            have HOW := hid hown
            clear hnx hown hp hdq
            go_wp2_with (at_builtin; go_must (refine wl_app1 rI rfl _ _ _ _ _ 8 rfl Try.underlying33 infoI1 rfl w.heap.size ?_ (.slice la (pendTo d i).length lc) (pendTo d i) rfl (HOW.out.ext ((Ext.refl _).alloc _)) [.int .i64 i] (i : Int) ⟨rfl, ?_⟩ _ rfl (heap_alloc_new _ _) ?_ ?_ ?_; (simp only [World.size_alloc]; omega); (exact ⟨Int.le_trans (Int.neg_nonpos_of_nonneg (by decide)) (Int.natCast_nonneg i), by omega⟩); omega; omega; intro v9 w9 q1 q2 q3))
            rw [← HNX.out] at q1
            obtain ⟨a9, c9, hv9⟩ := q1.slice
            subst hv9
            have hx9 : Ext w w9 := Keep.ext (((((HXJ2.out).alloc _).keep (fun k => k < w.heap.size)).trans ((keep_grown q2).mono fun k hk _ e => by have := (HOW.out.lt k e.symm).1; omega)).mono fun k _ hl => hl)
            have HX9 := hid hx9
            have Q1 := hid q1
            clear q1 q2 q3 hx9
            go_wp2_with fail
            exact ⟨⟨i + 1, rfl, by omega, Q1.out, HX9.out⟩, by simp only [intOf]; omega⟩
    · have hie : i = d.safe.length := by omega
      subst hie
      have i1 : ¬ (d.safe.length : Int) < (d.safe.length : Int) := by omega
      rw [pendTo_all] at HOWN
      go_wp2_with fail
      go_ret
      exact ⟨_, rfl, HOWN.out, HX.out⟩
end Go.Proofs.Ytgbiffpnfpdcoaa

/- cartularyref02.Device: Crash. -/
namespace Go.Proofs.Ytgbiffpnfpdcoaa
open Go.RowKit Go.Maps
set_option linter.unusedVariables false
set_option linter.unusedSimpArgs false

theorem selP_nil_next (P : List (Int × Bk)) (k : Nat) (hk : k < P.length) (n : Int) : selP (P.take (k + 1)) n = if P[k].1 = n then selP (P.take k) n ++ [P[k].2] else selP (P.take k) n := by
  rw [← List.take_append_getElem hk, selP_snoc]
  by_cases h : P[k].1 = n
  · rw [if_pos h.symm, if_pos h]
  · rw [if_neg fun e => h e.symm, if_neg h]
theorem selP_le (P : List (Int × Bk)) (n : Int) : (selP P n).length ≤ P.length := by
  unfold selP; rw [List.length_map]; exact List.length_filter_le _ _
theorem selP_mem {P : List (Int × Bk)} {n : Int} {b : Bk} (h : b ∈ selP P n) : ∃ p ∈ P, p.2 = b := by
  unfold selP at h
  obtain ⟨p, hp, rfl⟩ := List.mem_map.1 h
  exact ⟨p, (List.mem_filter.1 hp).1, rfl⟩

set_option maxRecDepth 100000 in
set_option maxHeartbeats 4000000 in
theorem RCrash_any {w : World} {B M g : Nat} {sv pv : Value} {rf : Int} {d : Dv} {P : List (Int × Bk)} (h : RAt w B M g sv pv rf d P) (hM : M ≤ 1000000) (S : Nat → Prop) (v : Value) (picks : List Int) (hv : RdS rI w S v picks) (hS : ∀ k, S k → k < w.heap.size → ¬ RBl g sv pv k) :
    Calls Try.prog 42 #[.pointer (some ⟨g, 0, none⟩), v] w fun e w' => e = .returned (.tuple #[]) ∧ (∃ rf', RAt w' B M g sv (.slice none 0 0) rf' (crashF d picks) []) ∧ Keep (fun k => ¬ RBl g sv pv k) w w' := by
  obtain ⟨va, vc, rfl, -⟩ := hv.slice
  obtain ⟨gs, sc, hsv, -⟩ := h.safe.zero (by have := h.size.1; omega)
  subst hsv
  obtain ⟨pa, pc, hpv⟩ := h.pend.slice
  subst hpv
  have hml := h.many
  obtain ⟨hs1, hs2⟩ := h.size
  have hlt0 : ∀ k, RBl g (.slice (some ⟨gs, 0, none⟩) d.safe.length sc) (.slice pa P.length pc) k → k < w.heap.size := fun k hk => (h.lt hk).2
  have H := hid h
  have HV := hid hv
  have HS := hid hS
  have HLT := hid hlt0
  clear h hv hS hlt0
  go_enter Try.func42, Try.ntmps42
  go_wp2_with fail
  refine (RBlocks_any H.out hM).mono ?_
  rintro e w1 ⟨lv, rfl, hl1, hx1⟩
  obtain ⟨la, lc, hlv⟩ := hl1.slice
  subst hlv
  have HL1 := hid hl1
  have HX1 := hid hx1
  have hz1 := hx1.size
  clear hl1 hx1
  go_wp2_with fail
  go_loopw [5] (fun u5 wr => ∃ i : Nat, u5 = .int .i64 i ∧ i ≤ (pendN d).length ∧ RAt wr B M g (.slice (some ⟨gs, 0, none⟩) d.safe.length sc) (.slice pa P.length pc) rf { d with safe := crashTo d picks i } P ∧ Keep (fun k => k < w1.heap.size ∧ ¬ RBl g (.slice (some ⟨gs, 0, none⟩) d.safe.length sc) (.slice pa P.length pc) k) w1 wr) (fun u5 _ => (pendN d).length - (intOf u5).toNat)
  case atStart => exact ⟨0, rfl, Nat.zero_le _, H.out.ext HX1.out, Keep.refl _ _⟩
  case round =>
    obtain ⟨i, rfl, hi, hr, hk⟩ := hrel
    by_cases hlt : i < (pendN d).length
    · have hlt' : (i : Int) < ((pendL d).length : Int) := by rw [pendL_len]; omega
      obtain ⟨n, hn⟩ : ∃ n : Nat, (pendN d)[i] = n := ⟨_, rfl⟩
      have hnm : n ∈ pendN d := hn ▸ List.getElem_mem hlt
      obtain ⟨hn1, hn2⟩ := pendN_mem.1 hnm
      have hor : OwnS rI 3 wr w.heap.size (fun _ => False) (.slice la (pendL d).length lc) (pendL d) := HL1.out.kept (hk.mono fun k hk _ => by
        rcases hk with hk | hk
        · exact hk.elim
        · have := HL1.out.lt k hk; exact ⟨this.2, fun e => by have := HLT.out k e; omega⟩)
      obtain ⟨ga, oa, ca, e, hga, -, hcell, -⟩ := hor.rd.atI i (by rw [pendL_len]; exact hlt)
      simp only [Value.slice.injEq] at e
      obtain ⟨rfl, -, rfl⟩ := e
      have hpi : (pendL d)[i]'(by rw [pendL_len]; exact hlt) = (n : Int) := by simp only [pendL, List.getElem_map, hn]
      rw [hpi] at hcell
      have hpn : d.pend (n : Int) = selP P n := H.out.rel n
      have hnext : crashTo d picks (i + 1) = (crashTo d picks i).set n (if pickF (picks.getD i 0) ((selP P n).length + 1) = 0 then (crashTo d picks i).getD n zb else (selP P n).getD (pickF (picks.getD i 0) ((selP P n).length + 1) - 1) ((crashTo d picks i).getD n zb)) := by
        have e1 : (pendN d).getD i 0 = n := by rw [List.getD_eq_getElem?_getD, List.getElem?_eq_getElem hlt, hn]; rfl
        rw [crashTo, e1]
        unfold keepF
        rw [hpn]
      have hcl := crashTo_len d picks i
      have hself : (crashTo d picks i).set n ((crashTo d picks i).getD n zb) = crashTo d picks i := setD_self _ (by rw [hcl]; exact hn1)
      have hz := hk.size
      have hLL := selP_le P n
      have hzw : w.heap.size ≤ wr.heap.size := by omega
      have HNEXT := hid hnext
      have HSELF := hid hself
      have HR := hid hr
      have HK := hid hk
      have HCELL := hid hcell
      have hpk : i < picks.length → ∃ gp op, va = some ⟨gp, op, none⟩ ∧ wr.cell? ⟨gp, op + i, none⟩ = some (.int .i64 (picks.getD i 0)) ∧ (-9223372036854775808 ≤ picks.getD i 0 ∧ picks.getD i 0 ≤ 9223372036854775807) := fun hip => by
        obtain ⟨gp, op, cp, e, hgp, hgS, hc, hb⟩ := HV.out.atI i hip
        simp only [Value.slice.injEq] at e
        have hpg : picks.getD i 0 = picks[i] := by rw [List.getD_eq_getElem?_getD, List.getElem?_eq_getElem hip]; rfl
        refine ⟨gp, op, e.1, ?_, by rw [hpg]; exact hb⟩
        have h2 := hk.cell (Ext.cellS HX1.out hc) ⟨by show gp < w1.heap.size; omega, HS.out gp hgS hgp⟩
        rw [hpg]; exact h2
      have HPK := hid hpk
      have hgsl : gs < w.heap.size := HLT.out gs (.inr (.inl rfl))
      have hhg := HLT.out g (.inl rfl)
      obtain ⟨PK, hPK⟩ : ∃ PK, picks.getD i 0 = PK := ⟨_, rfl⟩
      rw [hPK] at HPK HNEXT
      have hP0 : ¬ i < picks.length → PK = 0 := fun hip => by rw [← hPK, List.getD_eq_getElem?_getD, List.getElem?_eq_none (by omega)]; rfl
      have HP0 := hid hP0
      clear hr hk hcell hpk hnext hself hor hpi hnm hn hpn hPK hP0 hn2
      obtain ⟨wr0, hwr0⟩ : ∃ wr0, wr0 = wr := ⟨_, rfl⟩
      go_wp2_with fail
      go_loopw [6, 7] (fun u6 u7 wq => ∃ k : Nat, u7 = .int .i64 k ∧ k ≤ P.length ∧ OwnS rSB 9 wq wr0.heap.size (fun _ => False) u6 (selP (P.take k) n) ∧ Ext wr0 wq) (fun _ u7 _ => P.length - (intOf u7).toNat)
      case atStart => exact ⟨0, rfl, Nat.zero_le _, OwnS.nil _ _ _ _ _, by rw [hwr0]; exact Ext.refl _⟩
      case round =>
        rw [← hwr0] at HR HK HCELL HPK
        obtain ⟨k, rfl, hk, hwv, hxq⟩ := hrel
        obtain ⟨wa, wc, hwe⟩ := hwv.slice
        subst hwe
        have HWV := hid hwv
        have HXQ := hid hxq
        have c1 := Ext.cellS hxq HR.out.c1
        have hcell := Ext.cellS hxq HCELL.out
        have hzq := hxq.size
        clear hwv
        by_cases hlk : k < P.length
        · obtain ⟨gp, op, cp, e, -, -, q0, q1⟩ := (HR.out.pend.ext hxq).rd.atWS k hlk
          simp only [Value.slice.injEq] at e
          obtain ⟨rfl, -, rfl⟩ := e
          have hst := selP_nil_next P k hlk n
          have hsl := selP_le (P.take k) n
          rw [List.length_take] at hsl
          generalize P[k] = x at q0 q1 hst
          obtain ⟨xn, xb⟩ := x
          dsimp only at q0 q1 hst
          have HST := hid hst
          have i2 : (k : Int) < (P.length : Int) := by omega
          have hw2 : IntKind.i64.wrap ((k : Int) + 1) = (k : Int) + 1 := by rw [IntKind.wrap_i64]; omega
          clear hst
          by_cases hb : xn = n
          · subst hb
            go_wp2_with fail
            go_quiet (fail)
            have hxn := HXQ.out.trans ((Ext.refl wr).drewN nq)
            have q1 := Ext.cellS ((Ext.refl wr).drewN nq) q1
            have c1 := Ext.cellS ((Ext.refl wr).drewN nq) c1
            have hzn := ((Ext.refl wr).drewN nq).size
            have HXN := hid hxn
            have HWN := hid (HWV.out.ext ((Ext.refl wr).drewN nq))
            clear hxn
            go_wp2_with (at_builtin; go_must (refine wl_app1 rSB rfl _ _ _ _ _ 16 rfl Try.underlying42 infoS1 rfl _ ?_ (.slice wa (selP (P.take k) n).length wc) (selP (P.take k) n) rfl (HWN.out.ext ((Ext.refl _).alloc _)) [.string (bS' xb)] xb rfl _ rfl (heap_alloc_new _ _) ?_ ?_ ?_; (simp only [World.size_alloc]; omega); omega; omega; intro v9 w9 k1 k2 k3))
            have hx9 := Keep.ext (((((HXN.out).alloc (.cells #[.string (bS' xb)] 9)).keep (fun k => k < wr0.heap.size)).trans ((keep_grown k2).mono fun k hk _ e => by have := (HWN.out.lt k e.symm).1; omega)).mono fun k _ hl => hl)
            rw [show selP (P.take k) n ++ [xb] = selP (P.take (k + 1)) n by rw [HST.out]; simp] at k1
            obtain ⟨a9, c9, hv9⟩ := k1.slice
            subst hv9
            have HX9 := hid hx9
            have K1 := hid k1
            clear k1 k2 k3 hx9
            go_wp2_with fail
            exact ⟨⟨k + 1, rfl, by omega, K1.out, HX9.out⟩, by simp only [intOf]; omega⟩
          · go_wp2_with fail
            go_quiet (fail)
            go_wp2_with fail
            exact ⟨⟨k + 1, rfl, by omega, by rw [HST.out, if_neg hb]; exact HWV.out.ext (by (· repeat (first | (with_reducible assumption) | exact Ext.refl _ | refine Ext.alloc ?_ _ | refine Ext.drew ?_ | refine Ext.drewN ?_ _ | (apply Ext.snart; (with_reducible assumption))))), by (· repeat (first | (with_reducible assumption) | exact Ext.refl _ | refine Ext.alloc ?_ _ | refine Ext.drew ?_ | refine Ext.drewN ?_ _ | (apply Ext.snart; (with_reducible assumption))))⟩, by simp only [intOf]; omega⟩
        · have hie : k = P.length := by omega
          subst hie
          have i2 : ¬ (P.length : Int) < (P.length : Int) := by omega
          rw [List.take_length] at HWV
          obtain ⟨L, hL⟩ : ∃ L, (selP P n).length = L := ⟨_, rfl⟩
          have HLL2 := hid hL
          rw [hL] at HNEXT
          rw [List.take_length, hL]
          have hLb : L ≤ 1000000 := by omega
          have HXE := hid (show ∀ W, Ext wr W → pickF PK (L + 1) = 0 → RAt W B M g (.slice (some ⟨gs, 0, none⟩) d.safe.length sc) (.slice pa P.length pc) rf { d with safe := crashTo d picks (i + 1) } P from fun W hW h0 => by
            rw [HNEXT.out, if_pos h0, HSELF.out]; exact (HR.out.ext hxq).ext hW)
          have HKE := hid (show ∀ W, Ext wr W → Keep (fun k => k < w1.heap.size ∧ ¬ RBl g (.slice (some ⟨gs, 0, none⟩) d.safe.length sc) (.slice pa P.length pc) k) w1 W from fun W hW => HK.out.trans ((hxq.trans hW).keep _))
          have hwi : IntKind.i64.wrap ((i : Int) + 1) = (i : Int) + 1 := by rw [IntKind.wrap_i64]; have := pendN_len d; omega
          by_cases hip : i < picks.length
          · obtain ⟨gp2, op2, hva, hc2, hb2⟩ := HPK.out hip
            subst hva
            have hc2 := Ext.cellS hxq hc2
            have i3 : (i : Int) < (picks.length : Int) := by omega
            have hw3 : IntKind.i64.wrap ((L : Int) + 1) = (L : Int) + 1 := by rw [IntKind.wrap_i64]; omega
            go_wp2_with fail
            refine (Pick_any _ PK ((L : Int) + 1) hb2 (by omega) (by omega)).mono ?_
            rintro e w' ⟨rfl, rfl⟩
            rw [show ((L : Int) + 1).toNat = L + 1 by omega]
            have hpl := pickF_lt PK (L + 1) (by omega)
            obtain ⟨pr, hpr⟩ : ∃ pr, pickF PK (L + 1) = pr := ⟨_, rfl⟩
            rw [hpr] at hpl HXE HNEXT ⊢
            clear hpr hc2
            cases pr with
            | zero =>
              have h0 : ¬ (0 : Int) < ((0 : Nat) : Int) := by omega
              go_wp2_with fail
              exact ⟨⟨i + 1, rfl, by omega, HXE.out _ (by (· repeat (first | (with_reducible assumption) | exact Ext.refl _ | refine Ext.alloc ?_ _ | refine Ext.drew ?_ | refine Ext.drewN ?_ _ | (apply Ext.snart; (with_reducible assumption))))) (by simp), HKE.out _ (by (· repeat (first | (with_reducible assumption) | exact Ext.refl _ | refine Ext.alloc ?_ _ | refine Ext.drew ?_ | refine Ext.drewN ?_ _ | (apply Ext.snart; (with_reducible assumption)))))⟩, by simp only [intOf]; omega⟩
            | succ p' =>
              obtain ⟨gw, ow, cw, e, -, -, dw⟩ := HWV.out.rd.atSB p' (by rw [HLL2.out]; omega)
              rw [HLL2.out] at e
              simp only [Value.slice.injEq] at e
              obtain ⟨rfl, -, rfl⟩ := e
              have hbm := selP_mem (List.getElem_mem (show p' < (selP P n).length by rw [HLL2.out]; omega))
              have hgd : ∀ z, (selP P n).getD p' z = (selP P n)[p']'(by rw [HLL2.out]; omega) := fun z => by rw [List.getD_eq_getElem?_getD, List.getElem?_eq_getElem (by rw [HLL2.out]; omega)]; rfl
              have hnx := HNEXT.out
              rw [if_neg (by omega), show p' + 1 - 1 = p' by omega, hgd] at hnx
              generalize (selP P n)[p']'(by rw [HLL2.out]; omega) = xb at dw hbm hnx
              have hxb : xb.length = 512 := by
                obtain ⟨p, hp, rfl⟩ := hbm
                exact (H.out.rng p hp).2
              have hnl : n < (crashTo d picks i).length := by rw [hcl]; exact hn1
              have hset := (show RAt wr B M g (.slice (some ⟨gs, 0, none⟩) ({ d with safe := crashTo d picks i } : Dv).safe.length sc) (.slice pa P.length pc) rf { d with safe := crashTo d picks i } P by
                show RAt wr B M g (.slice (some ⟨gs, 0, none⟩) (crashTo d picks i).length sc) _ _ _ _
                rw [hcl]; exact HR.out.ext hxq).setSafe n hnl hxb
              have hset2 : RAt (wr.setCell ⟨gs, n, none⟩ (.string (bS' xb))) B M g (.slice (some ⟨gs, 0, none⟩) d.safe.length sc) (.slice pa P.length pc) rf { d with safe := crashTo d picks (i + 1) } P := by
                rw [hnx, ← hcl]
                exact hset
              obtain ⟨gs', cs', hsv', hfro⟩ := (HR.out.ext hxq).safe.zero (Nat.lt_of_le_of_lt (Nat.zero_le _) hnl)
              simp only [Value.slice.injEq, Option.some.injEq, Addr.mk.injEq] at hsv'
              obtain ⟨⟨rfl, -, -⟩, -, -⟩ := hsv'
              obtain ⟨gs2, os2, cs2, hsv2, -, -, d0⟩ := (HR.out.ext hxq).safe.rd.atSB n hnl
              simp only [Value.slice.injEq, Option.some.injEq, Addr.mk.injEq] at hsv2
              obtain ⟨⟨rfl, rfl, -⟩, -, -⟩ := hsv2
              rw [Nat.zero_add] at d0
              have HSET := hid hset2
              have c0 := Ext.cellS hxq HR.out.c0
              have f0 := hfro n
              have HGS := hid (show RBl g (.slice (some ⟨gs, 0, none⟩) d.safe.length sc) (.slice pa P.length pc) gs from .inr (.inl rfl))
              have r5 : (n : Int) < (d.safe.length : Int) := by omega
              have hw5 : IntKind.i64.wrap (p' : Int) = p' := by rw [IntKind.wrap_i64]; omega
              have hw6 : IntKind.i64.wrap (((p' + 1 : Nat) : Int) - 1) = p' := by rw [IntKind.wrap_i64]; omega
              have hp0 : (0 : Int) < (p' : Int) + 1 := by omega
              have hp1 : (p' : Int) < (L : Int) := by omega
              generalize bS' (({ d with safe := crashTo d picks i } : Dv).safe)[n] = old at d0
              clear hset hset2 hnx hgd hnl hbm hxb
              go_wp2_with fail
              have hxd : Ext wr wr.drew := by (· repeat (first | (with_reducible assumption) | exact Ext.refl _ | refine Ext.alloc ?_ _ | refine Ext.drew ?_ | refine Ext.drewN ?_ _ | (apply Ext.snart; (with_reducible assumption))))
              refine wp_region_T (fun w' => w'.cell? ⟨g, 0, none⟩ = some (.slice (some ⟨gs, 0, none⟩) d.safe.length sc) ∧ w'.cell? ⟨ga, oa + i, none⟩ = some (.int .i64 n) ∧ w'.cell? ⟨gw, ow + p', none⟩ = some (.string (bS' xb))) [14] (by kernel_rfl) ⟨Ext.cellS hxd c0, Ext.cellS hxd hcell, Ext.cellS hxd dw⟩ (fun hS => ?_)
              (refine wpAnyT_take (i := 0) (v := ?_) rfl (by kernel_rfl) (by kernel_rfl) (by kernel_rfl) (by kernel_rfl) (fun _ _ _ h => h) (Or.inl ⟨by rfl, ?_⟩) (by assumption) ?_; rotate_left; ((intro wS hSw; (try dsimp only at hSw); (try simp only [List.getElem_toArray, List.getElem_cons_zero, List.getElem_cons_succ]); go_simp); (try with_reducible rfl)); (try simp only [Act.put, List.getElem_toArray, List.getElem_cons_zero, List.getElem_cons_succ, List.setIfInBounds_toArray, List.set_cons_zero, List.set_cons_succ]))
              (refine wpAnyT_take (i := 1) (v := ?_) rfl (by kernel_rfl) (by kernel_rfl) (by kernel_rfl) (by kernel_rfl) (fun _ _ _ h => h) (Or.inl ⟨by rfl, ?_⟩) (by assumption) ?_; rotate_left; ((intro wS hSw; (try dsimp only at hSw); (try simp only [List.getElem_toArray, List.getElem_cons_zero, List.getElem_cons_succ]); go_simp); (try with_reducible rfl)); (try simp only [Act.put, List.getElem_toArray, List.getElem_cons_zero, List.getElem_cons_succ, List.setIfInBounds_toArray, List.set_cons_zero, List.set_cons_succ]))
              (refine wpAnyT_take (i := 2) (v := ?_) rfl (by kernel_rfl) (by kernel_rfl) (by kernel_rfl) (by kernel_rfl) (fun _ _ _ h => h) (Or.inl ⟨by rfl, ?_⟩) (by assumption) ?_; rotate_left; ((intro wS hSw; (try dsimp only at hSw); (try simp only [List.getElem_toArray, List.getElem_cons_zero, List.getElem_cons_succ]); go_simp); (try with_reducible rfl)); (try simp only [Act.put, List.getElem_toArray, List.getElem_cons_zero, List.getElem_cons_succ, List.setIfInBounds_toArray, List.set_cons_zero, List.set_cons_succ]))
              (refine wpAnyT_take (i := 3) (v := ?_) rfl (by kernel_rfl) (by kernel_rfl) (by kernel_rfl) (by kernel_rfl) (fun _ _ _ h => h) (Or.inl ⟨by rfl, ?_⟩) (by assumption) ?_; rotate_left; ((intro wS hSw; (try dsimp only at hSw); (try simp only [List.getElem_toArray, List.getElem_cons_zero, List.getElem_cons_succ]); go_simp); (try with_reducible rfl)); (try simp only [Act.put, List.getElem_toArray, List.getElem_cons_zero, List.getElem_cons_succ, List.setIfInBounds_toArray, List.set_cons_zero, List.set_cons_succ]))
              (refine wpAnyT_take (i := 4) (v := ?_) rfl (by kernel_rfl) (by kernel_rfl) (by kernel_rfl) (by kernel_rfl) (fun _ _ _ h => h) (Or.inl ⟨by rfl, ?_⟩) (by assumption) ?_; rotate_left; ((intro wS hSw; (try dsimp only at hSw); (try simp only [List.getElem_toArray, List.getElem_cons_zero, List.getElem_cons_succ]); go_simp); (try with_reducible rfl)); (try simp only [Act.put, List.getElem_toArray, List.getElem_cons_zero, List.getElem_cons_succ, List.setIfInBounds_toArray, List.set_cons_zero, List.set_cons_succ]))
              (refine wpAnyT_take (i := 5) (v := ?_) rfl (by kernel_rfl) (by kernel_rfl) (by kernel_rfl) (by kernel_rfl) (fun _ _ _ h => h) (Or.inl ⟨by rfl, ?_⟩) (by assumption) ?_; rotate_left; ((intro wS hSw; (try dsimp only at hSw); (try simp only [List.getElem_toArray, List.getElem_cons_zero, List.getElem_cons_succ]); go_simp); (try with_reducible rfl)); (try simp only [Act.put, List.getElem_toArray, List.getElem_cons_zero, List.getElem_cons_succ, List.setIfInBounds_toArray, List.set_cons_zero, List.set_cons_succ]))
              (refine wpAnyT_take (i := 6) (v := ?_) rfl (by kernel_rfl) (by kernel_rfl) (by kernel_rfl) (by kernel_rfl) (fun _ _ _ h => h) (Or.inl ⟨by rfl, ?_⟩) (by assumption) ?_; rotate_left; ((intro wS hSw; (try dsimp only at hSw); (try simp only [List.getElem_toArray, List.getElem_cons_zero, List.getElem_cons_succ]); go_simp); (try with_reducible rfl)); (try simp only [Act.put, List.getElem_toArray, List.getElem_cons_zero, List.getElem_cons_succ, List.setIfInBounds_toArray, List.set_cons_zero, List.set_cons_succ]))
              (refine wpAnyT_take (i := 7) (v := ?_) rfl (by kernel_rfl) (by kernel_rfl) (by kernel_rfl) (by kernel_rfl) (fun _ _ _ h => h) (Or.inl ⟨by rfl, ?_⟩) (by assumption) ?_; rotate_left; ((intro wS hSw; (try dsimp only at hSw); (try simp only [List.getElem_toArray, List.getElem_cons_zero, List.getElem_cons_succ]); go_simp); (try with_reducible rfl)); (try simp only [Act.put, List.getElem_toArray, List.getElem_cons_zero, List.getElem_cons_succ, List.setIfInBounds_toArray, List.set_cons_zero, List.set_cons_succ]))
              (refine wpAnyT_take (i := 8) (v := ?_) rfl (by kernel_rfl) (by kernel_rfl) (by kernel_rfl) (by kernel_rfl) (fun _ _ _ h => h) (Or.inl ⟨by rfl, ?_⟩) (by assumption) ?_; rotate_left; ((intro wS hSw; (try dsimp only at hSw); (try simp only [List.getElem_toArray, List.getElem_cons_zero, List.getElem_cons_succ]); go_simp); (try with_reducible rfl)); (try simp only [Act.put, List.getElem_toArray, List.getElem_cons_zero, List.getElem_cons_succ, List.setIfInBounds_toArray, List.set_cons_zero, List.set_cons_succ]))
              (refine wpAnyT_take (i := 9) (v := ?_) rfl (by kernel_rfl) (by kernel_rfl) (by kernel_rfl) (by kernel_rfl) (fun _ _ _ h => h) (Or.inl ⟨by rfl, ?_⟩) (by assumption) ?_; rotate_left; ((intro wS hSw; (try dsimp only at hSw); (try simp only [List.getElem_toArray, List.getElem_cons_zero, List.getElem_cons_succ]); go_simp); (try with_reducible rfl)); (try simp only [Act.put, List.getElem_toArray, List.getElem_cons_zero, List.getElem_cons_succ, List.setIfInBounds_toArray, List.set_cons_zero, List.set_cons_succ]))
              (refine wpAnyT_take (i := 10) (v := ?_) rfl (by kernel_rfl) (by kernel_rfl) (by kernel_rfl) (by kernel_rfl) (fun _ _ _ h => h) (Or.inl ⟨by rfl, ?_⟩) (by assumption) ?_; rotate_left; ((intro wS hSw; (try dsimp only at hSw); (try simp only [List.getElem_toArray, List.getElem_cons_zero, List.getElem_cons_succ]); go_simp); (try with_reducible rfl)); (try simp only [Act.put, List.getElem_toArray, List.getElem_cons_zero, List.getElem_cons_succ, List.setIfInBounds_toArray, List.set_cons_zero, List.set_cons_succ]))
              (refine wpAnyT_take (i := 11) (v := ?_) rfl (by kernel_rfl) (by kernel_rfl) (by kernel_rfl) (by kernel_rfl) (fun _ _ _ h => h) (Or.inl ⟨by rfl, ?_⟩) (by assumption) ?_; rotate_left; ((intro wS hSw; (try dsimp only at hSw); (try simp only [List.getElem_toArray, List.getElem_cons_zero, List.getElem_cons_succ]); go_simp); (try with_reducible rfl)); (try simp only [Act.put, List.getElem_toArray, List.getElem_cons_zero, List.getElem_cons_succ, List.setIfInBounds_toArray, List.set_cons_zero, List.set_cons_succ]))
              (refine wpAnyT_take (i := 12) (v := ?_) rfl (by kernel_rfl) (by kernel_rfl) (by kernel_rfl) (by kernel_rfl) (fun _ _ _ h => h) (Or.inl ⟨by rfl, ?_⟩) (by assumption) ?_; rotate_left; ((intro wS hSw; (try dsimp only at hSw); (try simp only [List.getElem_toArray, List.getElem_cons_zero, List.getElem_cons_succ]); go_simp); (try with_reducible rfl)); (try simp only [Act.put, List.getElem_toArray, List.getElem_cons_zero, List.getElem_cons_succ, List.setIfInBounds_toArray, List.set_cons_zero, List.set_cons_succ]))
              refine wpAnyT_all (rs := [13]) (by kernel_rfl) (by decide) (AllT.consS rfl (fun K hK => ?_) AllT.nil)
              go_simp
              (refine hK.out _ _ (hS) (fun hS => ?_); clear hK K)
              refine wpAnyT_all (rs := [14]) (by kernel_rfl) (by decide) (AllT.consF rfl rfl (fun K hK => ?_) AllT.nil)
              go_simp
              (refine hK.out _ _ ?_; clear hK K)
              refine wpAnyT_done (by kernel_rfl) (NoPanic.normal ?_) _
              go_wp2_with fail
              exact ⟨⟨i + 1, rfl, by omega, HSET.out.ext (Ext.refl _).drew, ((HKE.out _ (Ext.refl _)).setCell (fun h => h.2 HGS.out) _).drew⟩, by simp only [intOf]; omega⟩
          · have i3 : ¬ (i : Int) < (picks.length : Int) := by omega
            have h0 := HP0.out hip
            subst h0
            have hz0 : pickF 0 (L + 1) = 0 := by unfold pickF; simp
            go_wp2_with fail
            exact ⟨⟨i + 1, rfl, by omega, HXE.out _ (by (· repeat (first | (with_reducible assumption) | exact Ext.refl _ | refine Ext.alloc ?_ _ | refine Ext.drew ?_ | refine Ext.drewN ?_ _ | (apply Ext.snart; (with_reducible assumption))))) hz0, HKE.out _ (by (· repeat (first | (with_reducible assumption) | exact Ext.refl _ | refine Ext.alloc ?_ _ | refine Ext.drew ?_ | refine Ext.drewN ?_ _ | (apply Ext.snart; (with_reducible assumption)))))⟩, by simp only [intOf]; omega⟩
    · have hie : i = (pendN d).length := by omega
      subst hie
      have hlt' : ¬ (((pendN d).length : Nat) : Int) < ((pendL d).length : Int) := by rw [pendL_len]; omega
      have HR := hid hr
      have HK := hid hk
      have hgl := hr.glt
      have f1 := blk_fro hr.row 1
      have c1 := hr.c1
      have c2 := hr.c2
      have c3 := hr.c3
      have f2 := blk_fro hr.row 2
      have f3 := blk_fro hr.row 3
      clear hr hk
      go_wp2_with fail
      go_end0
      have hs : Keep (fun k => k ≠ g) wr (((wr.setCell ⟨g, 1, none⟩ (.slice none 0 0)).setCell ⟨g, 3, none⟩ (.bool false)).setCell ⟨g, 2, none⟩ (.int .i64 (-1))) := (((Keep.refl _ _).setCell (by simp) _).setCell (by simp) _).setCell (by simp) _
      have hr := HR.out
      refine ⟨rfl, ⟨-1, ?_⟩, ((HX1.out.keep _).trans (HK.out.mono fun k hk hl => ⟨hl, hk⟩)).trans (hs.mono fun k hk _ e => hk (.inl e))⟩
      exact {
        row := (blk_set (o := 2) ((blk_set (o := 3) ((blk_set (o := 1) hr.row (.slice none 0 0)).trans rfl) (.bool false)).trans rfl) (.int .i64 (-1))).trans rfl
        low := hr.low
        safe := hr.safe.kept (hs.mono fun k hk _ => by
          rcases hk with hk | hk
          · exact hk.elim
          · exact hr.sg k hk)
        pend := OwnS.nil _ _ _ _ _
        sg := hr.sg
        pg := fun k hk => by simp [Value.ownBlock] at hk
        rel := fun _ => rfl
        rng := fun p hp => by simp at hp
        size := hr.size
        long := hr.long
        fuse := rfl
        fb := by decide
        ops := hr.ops
        many := Nat.zero_le _ }
end Go.Proofs.Ytgbiffpnfpdcoaa

/- cartularyref02.Device: Copy. -/
namespace Go.Proofs.Ytgbiffpnfpdcoaa
open Go.RowKit Go.Maps
set_option linter.unusedVariables false
set_option linter.unusedSimpArgs false

theorem RAt.base {w : World} {B B' M g : Nat} {sv pv : Value} {rf : Int} {d : Dv} {P : List (Int × Bk)} (h : RAt w B M g sv pv rf d P) (hb : B' ≤ B) : RAt w B' M g sv pv rf d P :=
  { h with low := Nat.le_trans hb h.low, safe := h.safe.low hb, pend := h.pend.low hb }

theorem copy_cell {w : World} {g G o j : Nat} {u x : Value} (h : w.cell? ⟨g, o, none⟩ = some x) (hn : g ≠ G) : (w.setCell ⟨G, j, none⟩ u).cell? ⟨g, o, none⟩ = some x :=
  ((Keep.refl (fun k => k ≠ G) w).setCell (by simp) u).cell h hn

theorem copy_mid {w : World} {B M g gs0 sc pc : Nat} {pa : Option Addr} {rf : Int} {d : Dv} {P : List (Int × Bk)} (h : RAt w B M g (.slice (some ⟨gs0, 0, none⟩) d.safe.length sc) (.slice pa P.length pc) rf d P) (hM : M ≤ 1000000)
    {w5 : World} {v5 : Value} (k1 : OwnS rSB 9 w5 (w.heap.size + 1) (fun _ => False) v5 d.safe) (k2 : ((w.alloc (.cells #[.slice (some ⟨gs0, 0, none⟩) d.safe.length sc, .slice pa P.length pc, .int .i64 rf, .bool d.down, .int .i64 d.ops] 65)).alloc (.cells #[] 9)).grownBy w5 (some (w.heap.size + 1))) :
    ∃ (a5 : Option Addr) (c5 : Nat) (gq : List (List Value × (Int × Bk))), v5 = .slice a5 d.safe.length c5 ∧ w5.cell? ⟨w.heap.size, 0, none⟩ = some (.slice (some ⟨gs0, 0, none⟩) d.safe.length sc) ∧ w5.frozen? ⟨w.heap.size, 0, none⟩ = false ∧ ((w5.setCell ⟨w.heap.size, 0, none⟩ (.slice a5 d.safe.length c5)).alloc (.cells #[] 112)).cell? ⟨g, 1, none⟩ = some (.slice pa P.length pc) ∧
      Hid (OwnS rWS 112 ((w5.setCell ⟨w.heap.size, 0, none⟩ (.slice a5 d.safe.length c5)).alloc (.cells #[] 112)) w5.heap.size (fun _ => False) (.slice (some ⟨w5.heap.size, 0, none⟩) 0 0) []) ∧ Hid (P = gq.map (·.2)) ∧ Hid (Src Try.prog rWS.size 63 (.slice pa P.length pc) gq.length (cellsOf gq) ((w5.setCell ⟨w.heap.size, 0, none⟩ (.slice a5 d.safe.length c5)).alloc (.cells #[] 112))) ∧
      Hid (∀ p ∈ gq, rWS.rd ((w5.setCell ⟨w.heap.size, 0, none⟩ (.slice a5 d.safe.length c5)).alloc (.cells #[] 112)) (fun _ => False) p.1 p.2) ∧ Hid ((([] : List (Int × Bk)).length + gq.length) * 24 ≤ 140737488355328) ∧ Hid (([] : List (Int × Bk)).length + gq.length ≤ 9223372036854775807) ∧ Hid (w5.heap.size ≤ ((w5.setCell ⟨w.heap.size, 0, none⟩ (.slice a5 d.safe.length c5)).alloc (.cells #[] 112)).heap.size) ∧
      Hid (∀ (w6 : World), ((w5.setCell ⟨w.heap.size, 0, none⟩ (.slice a5 d.safe.length c5)).alloc (.cells #[] 112)).grownBy w6 (some w5.heap.size) → ∀ v6, OwnS rWS 112 w6 w5.heap.size (fun _ => False) v6 P →
        ∃ a6 c6, v6 = .slice a6 P.length c6 ∧ w6.cell? ⟨w.heap.size, 1, none⟩ = some (.slice pa P.length pc) ∧ w6.frozen? ⟨w.heap.size, 1, none⟩ = false ∧ Hid (RAt (w6.setCell ⟨w.heap.size, 1, none⟩ v6) w.heap.size M w.heap.size (.slice a5 d.safe.length c5) v6 rf d P ∧ Ext w (w6.setCell ⟨w.heap.size, 1, none⟩ v6))) := by
  obtain ⟨wa, hwa⟩ : ∃ wa, wa = w.alloc (.cells #[.slice (some ⟨gs0, 0, none⟩) d.safe.length sc, .slice pa P.length pc, .int .i64 rf, .bool d.down, .int .i64 d.ops] 65) := ⟨_, rfl⟩
  have hza : wa.heap.size = w.heap.size + 1 := by rw [hwa]; simp
  have hxa : Ext w wa := by rw [hwa]; exact (Ext.refl _).alloc _
  have hra : wa.heap[w.heap.size]? = some (.cells #[.slice (some ⟨gs0, 0, none⟩) d.safe.length sc, .slice pa P.length pc, .int .i64 rf, .bool d.down, .int .i64 d.ops] 65 (0, 0)) := by rw [hwa]; exact heap_alloc_new _ _
  have hgl := h.glt
  rw [← hwa] at k2
  have hx : Ext w (wa.alloc (.cells #[] 9)) := hxa.alloc _
  have hk := keep_grown k2
  have hl : w.heap.size < (wa.alloc (.cells #[] 9)).heap.size := by simp; omega
  have r5 : w5.heap[w.heap.size]? = some (.cells #[.slice (some ⟨gs0, 0, none⟩) d.safe.length sc, .slice pa P.length pc, .int .i64 rf, .bool d.down, .int .i64 d.ops] 65 (0, 0)) := (hk.block w.heap.size (by simp) hl).trans (row_ext ((Ext.refl wa).alloc _) hra)
  have x5 : Ext w w5 := Keep.ext (((hx.keep (fun k => k < w.heap.size)).trans (hk.mono fun k hk _ e => by have := Option.some.inj e; omega)).mono fun k _ hl => hl)
  have z5 : w.heap.size < w5.heap.size := Nat.lt_of_lt_of_le hl hk.size
  obtain ⟨a5, c5, hv5⟩ := k1.slice
  subst hv5
  obtain ⟨wd, hwd⟩ : ∃ wd, wd = (w5.setCell ⟨w.heap.size, 0, none⟩ (.slice a5 d.safe.length c5)) := ⟨_, rfl⟩
  have hs5 : Keep (fun k => k ≠ w.heap.size) w5 wd := by rw [hwd]; exact (Keep.refl _ _).setCell (by simp) _
  have hzd : wd.heap.size = w5.heap.size := by rw [hwd]; simp
  have hrd : wd.heap[w.heap.size]? = some (.cells #[.slice a5 d.safe.length c5, .slice pa P.length pc, .int .i64 rf, .bool d.down, .int .i64 d.ops] 65 (0, 0)) := by rw [hwd]; exact (blk_set (o := 0) r5 _).trans rfl
  have hxd : Ext w wd := Keep.ext (((x5.keep (fun k => k < w.heap.size)).trans (hs5.mono fun k hk _ => by omega)).mono fun k _ hl => hl)
  have hK1 : OwnS rSB 9 wd (w.heap.size + 1) (fun _ => False) (.slice a5 d.safe.length c5) d.safe := k1.kept (hs5.mono fun k hk _ e => by
    rcases hk with hk | hk
    · exact hk
    · have := (k1.lt k hk).1; omega)
  have hA2 := OwnS.made rWS 112 wd (fun _ => False) id
  obtain ⟨gq, hgq1, hsrc2, hall2⟩ := (h.pend.rd.ext (hxd.alloc (.cells #[] 112))).src Try.underlying63
  have hgn : gq.length = P.length := by rw [hgq1, List.length_map]
  have hml := h.many
  rw [hzd] at hA2
  refine ⟨a5, c5, gq, rfl, ?_⟩
  rw [← hwd]
  refine ⟨ (cell_of_row _ _ 0 _ _ _ r5).trans rfl, blk_fro r5 0, Ext.cellS (hxd.alloc _) h.c1, hid hA2, hid hgq1, hid hsrc2, hid fun p hp => hall2 p hp, hid (by simp only [List.length_nil]; omega), hid (by simp only [List.length_nil]; omega), hid (by simp; omega), hid fun w6 k2 v6 k1 => ?_⟩
  have hx : Ext wd (wd.alloc (.cells #[] 112)) := (Ext.refl _).alloc _
  have hk := keep_grown k2
  have hk6 : Keep (fun k => k < wd.heap.size) wd w6 := (hx.keep _).trans (hk.mono fun k hk _ e => by have := Option.some.inj e; omega)
  have hgl6 := (Array.getElem?_eq_some_iff.1 hrd).1
  have hr6 := (hk6.block w.heap.size hgl6 hgl6).trans hrd
  have hs6 : Keep (fun k => k ≠ w.heap.size) w6 (w6.setCell ⟨w.heap.size, 1, none⟩ v6) := (Keep.refl _ _).setCell (by simp) _
  obtain ⟨a6, c6, hv6⟩ := k1.slice
  refine ⟨a6, c6, hv6, (cell_of_row _ _ 1 _ _ _ hr6).trans rfl, blk_fro hr6 1, hid ⟨{ h with
    row := (blk_set (o := 1) hr6 v6).trans rfl
    low := Nat.le_refl _
    safe := ((hK1.kept (hk6.mono fun k hk _ => by
      rcases hk with hk | hk
      · exact hk.elim
      · exact (hK1.lt k hk).2)).kept (hs6.mono fun k hk _ e => by
      rcases hk with hk | hk
      · exact hk
      · have := (hK1.lt k hk).1; omega)).low (by omega)
    pend := (k1.kept (hs6.mono fun k hk _ e => by
      rcases hk with hk | hk
      · exact hk
      · have := (k1.lt k hk).1; omega)).low (by omega)
    sg := fun k hk e => by have := (hK1.lt k hk).1; omega
    pg := fun k hk => ⟨by have := (k1.lt k hk).1; omega, fun e => by have := (k1.lt k hk).1; have := (hK1.lt k e).2; omega⟩ }, ?_⟩⟩
  exact Keep.ext ((((hxd.keep (fun k => k < w.heap.size)).trans (hk6.mono fun k hk _ => by omega)).trans (hs6.mono fun k hk _ => by omega)).mono fun k _ hl => hl)

set_option maxRecDepth 100000 in
set_option maxHeartbeats 4000000 in
theorem RCopy_any {w : World} {B M g : Nat} {sv pv : Value} {rf : Int} {d : Dv} {P : List (Int × Bk)} (h : RAt w B M g sv pv rf d P) (hM : M ≤ 1000000) :
    Calls Try.prog 39 #[.pointer (some ⟨g, 0, none⟩)] w fun e w' => ∃ g' sv' pv', e = .returned (.pointer (some ⟨g', 0, none⟩)) ∧ RAt w' w.heap.size M g' sv' pv' rf d P ∧ Ext w w' := by
  obtain ⟨gs0, sc, hsv, -⟩ := h.safe.zero (by have := h.size.1; omega)
  subst hsv
  obtain ⟨pa, pc, hpv⟩ := h.pend.slice
  subst hpv
  have c0 := h.c0
  have c1 := h.c1
  have c2 := h.c2
  have c3 := h.c3
  have c4 := h.c4
  have hgl := h.glt
  have hml := h.many
  obtain ⟨hs1, hs2⟩ := h.size
  have H := hid h
  clear h
  obtain ⟨wa, hwa⟩ : ∃ wa, wa = w.alloc (.cells #[.slice (some ⟨gs0, 0, none⟩) d.safe.length sc, .slice pa P.length pc, .int .i64 rf, .bool d.down, .int .i64 d.ops] 65) := ⟨_, rfl⟩
  have hza : wa.heap.size = w.heap.size + 1 := by rw [hwa]; simp
  have hxa : Ext w wa := by rw [hwa]; exact (Ext.refl _).alloc _
  have hra : wa.heap[w.heap.size]? = some (.cells #[.slice (some ⟨gs0, 0, none⟩) d.safe.length sc, .slice pa P.length pc, .int .i64 rf, .bool d.down, .int .i64 d.ops] 65 (0, 0)) := by rw [hwa]; exact heap_alloc_new _ _
  have hA := OwnS.made rSB 9 wa (fun _ => False) id
  obtain ⟨gl, hgl1, hsrc, hall⟩ := (H.out.safe.rd.ext (hxa.alloc (.cells #[] 9))).src Try.underlying42
  have hgn : gl.length = d.safe.length := by rw [hgl1, List.length_map]
  rw [hza] at hA
  have HA := hid hA
  have HGL1 := hid hgl1
  have HSRC := hid hsrc
  have HALL := hid (show ∀ p ∈ gl, rSB.rd (wa.alloc (.cells #[] 9)) (fun _ => False) p.1 p.2 from fun p hp => hall p hp)
  have HGN := hid hgn
  have HRA := hid hra
  have HXA := hid hxa
  have hzle : w.heap.size + 1 ≤ (wa.alloc (.cells #[] 9)).heap.size := by simp; omega
  have HZLE := hid hzle
  have HB1 := hid (show (([] : List Bk).length + gl.length) * 16 ≤ 140737488355328 by simp only [List.length_nil]; omega)
  have HB2 := hid (show ([] : List Bk).length + gl.length ≤ 9223372036854775807 by simp only [List.length_nil]; omega)
  have HWA := hid hwa
  clear hA hgl1 hsrc hall hgn hra hxa hza hzle
  rw [hwa] at HA HSRC HALL HZLE
  clear hwa
  go_enter Try.func39, Try.ntmps39
  go_wp2_with (at_builtin; first
    | (refine wl_appS rSB rfl _ _ _ _ _ (.string ⟨#[]⟩) 16 rfl Try.underlying42 infoS1 rfl (w.heap.size + 1) (fun _ => False) _ [] rfl HA.out _ gl rfl HSRC.out HALL.out (fun _ h => h.elim) HB1.out HB2.out HZLE.out ?_; intro v5 w5 k1 k2 k3; rw [List.nil_append, ← HGL1.out] at k1; obtain ⟨a5, c5, gq, hv5, q0, f0, q1, HA2, HGQ, HSRC2, HALL2, HB3, HB4, HZ2, HH2⟩ := copy_mid H.out hM k1 k2; subst hv5; clear k1 k2 k3 HA HSRC HALL HZLE)
    | (refine wl_appS rWS rfl _ _ _ _ _ (.agg #[.int .i64 0, .string ⟨#[]⟩]) 24 rfl Try.underlying63 infoW1 rfl w5.heap.size (fun _ => False) _ [] rfl HA2.out _ gq rfl HSRC2.out HALL2.out (fun _ h => h.elim) HB3.out HB4.out HZ2.out ?_; intro v6 w6 k1 k2 k3; rw [List.nil_append, ← HGQ.out] at k1; obtain ⟨a6, c6, hv6, q2, f2, X6⟩ := HH2.out w6 k2 _ k1; subst hv6; clear k1 k2 k3 HA2 HSRC2 HALL2 HZ2 HH2))
  go_ret
  exact ⟨_, _, _, rfl, X6.out⟩
end Go.Proofs.Ytgbiffpnfpdcoaa
