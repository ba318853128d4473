/- blockdev.Flush, walked. -/
import Derived.Test.YtgbiffpnfpdcoaaBdF
namespace Go.Proofs.Ytgbiffpnfpdcoaa
open Go.RowKit Go.Maps
set_option linter.unusedVariables false
set_option linter.unusedSimpArgs false

theorem wl_next {w : World} {ops : Array Oper} {rest : List Oper} {o : Oper} {a : Act} {Q : Exit → Act → World → Prop} (hgd : o.guard = none) (it : Operand) (hop : o.op = Op.next it false) (r : Nat) (hit : a.eval it = .pointer (some ⟨r, 0, none⟩))
    {b n cnt : Nat} {m : Int → Option Value} {left : Lit → Bool} (h : MapR kInt w b r n m left cnt)
    (hDone : cnt = 0 → (∀ x : Int, left (.int .i64 x) = false) → wpList Try.prog ops Q rest (a.put o.dst (.tuple #[.bool false])) w)
    (hMore : ∀ (x : Int) (v : Value) (w' : World) (cnt' : Nat), kInt.ok x → m x = some v → left (.int .i64 x) = true → MapR kInt w' b r n m (fun z => left z && !z.sameKey (.int .i64 x)) cnt' → cnt' < cnt → Keep (fun k => k ≠ r) w w' → w'.heap.size = w.heap.size →
      (Instr.entry (.pointer (some ⟨r, 0, none⟩))).run Try.prog w' = .ok (.tuple #[.int .i64 x, v]) w' → wpList Try.prog ops Q rest (a.put o.dst (.tuple #[.bool true, .int .i64 x, v])) w') : wpList Try.prog ops Q (o :: rest) a w := by
  refine wpList_plain hgd fun K' hK' => ?_
  unfold Oper.wp
  rcases h.next o.type with ⟨h0, hl, hrun⟩ | ⟨x, v, w', cnt', hx, hv, hl, hrun, hr, hlt, hk, hs, hen⟩
  · simp [execOp, hop, hit, hrun, Result.andThen]
    exact hK' _ _ (hDone h0 hl)
  · simp [execOp, hop, hit, hrun, Result.andThen]
    exact hK' _ _ (hMore x v w' cnt' hx hv hl hr hlt hk hs hen)

/-- what is told by the blocks, while those that 'left' names are still to come -/
def safeL (d : Dv) (left : Lit → Bool) : List Bk := (List.range d.safe.length).map fun (j : Nat) => if left (.int .i64 (j : Int)) = true then d.safe.getD j zb else curF d j
theorem safeL_len (d : Dv) (left : Lit → Bool) : (safeL d left).length = d.safe.length := by simp [safeL]
theorem safeL_start {w : World} {g : Nat} {ρ : Nat → Option DRol} {N : Nat} {d : Dv} {vs : Value} {gm : Nat} {m : Int → Option Value} (h : DvP w g ρ N d vs gm m) {left : Lit → Bool} (hl : leftAll kInt m left) : safeL d left = d.safe := by
  apply List.ext_getElem (safeL_len d left)
  intro j h1 h2
  have hj : kInt.ok (j : Int) := ⟨by omega, by have := h.size.2; omega⟩
  have hl := hl (j : Int) hj
  have e : (kInt.lit (j : Int)) = .int .i64 (j : Int) := rfl
  rw [e] at hl
  simp only [safeL, List.getElem_map, List.getElem_range]
  rw [hl]
  have hd : d.safe.getD j zb = d.safe[j] := by rw [List.getD_eq_getElem?_getD, List.getElem?_eq_getElem h2]; rfl
  cases hm : m (j : Int) with
  | some v => rw [Option.isSome_some, if_pos rfl, hd]
  | none =>
    rw [if_neg (by simp)]
    have hp : d.pend (j : Int) = [] := by
      by_cases hp : d.pend (j : Int) = []
      · exact hp
      · have := (h.has (j : Int) hj).2 hp; rw [hm] at this; cases this
    unfold curF
    rw [hp, List.getLast?_nil, Option.getD_none, Int.toNat_natCast, hd]
theorem safeL_step {d : Dv} {left : Lit → Bool} {x : Nat} (hx : x < d.safe.length) : (safeL d left).set x (curF d x) = safeL d (fun z => left z && !z.sameKey (.int .i64 (x : Int))) := by
  apply List.ext_getElem (by rw [List.length_set, safeL_len, safeL_len])
  intro j h1 h2
  rw [List.getElem_set]
  simp only [safeL, List.getElem_map, List.getElem_range]
  by_cases e : x = j
  · subst e
    rw [if_pos rfl, if_neg (by simp [Lit.sameKey])]
  · rw [if_neg e]
    have := strike_other left (x := (x : Int)) (y := (j : Int)) (by omega)
    simp only at this
    rw [this]
theorem safeL_end {d : Dv} {left : Lit → Bool} (hl : ∀ x : Int, left (.int .i64 x) = false) : safeL d left = (List.range d.safe.length).map fun (j : Nat) => curF d (j : Int) := by
  unfold safeL
  apply List.map_congr_left
  intro j _
  rw [hl, if_neg (by simp)]

theorem DvP.setSafe {w : World} {g : Nat} {ρ : Nat → Option DRol} {N : Nat} {d : Dv} {gs n cap : Nat} {gm : Nat} {m : Int → Option Value} (h : DvP w g ρ N d (.slice (some ⟨gs, 0, none⟩) n cap) gm m) (i : Nat) (hi : i < d.safe.length) {b : Bk} (hb : b.length = 512) :
    DvP (w.setCells gs (i * 512) (bvs b)) g ρ N { d with safe := d.safe.set i b } (.slice (some ⟨gs, 0, none⟩) n cap) gm m ∧ w.there gs (i * 512) (bvs b).toArray.size ∧ Keep (fun k => k ≠ gs) w (w.setCells gs (i * 512) (bvs b)) := by
  obtain ⟨h1, h2⟩ := h.safe.setBk i hi hb
  obtain ⟨k1, k2⟩ := keep_setCells (w := w) (g := gs) (o := i * 512) (vs := bvs b)
  have hgs := h.rsafe gs rfl
  refine ⟨{
    head := by rw [k1.block g (fun e => by have := h.rg; rw [e, hgs] at this; simp at this) h.glt]; exact h.head
    rg := h.rg
    safe := h1
    rsafe := h.rsafe
    map := h.map.kept k1 (fun e => by have := h.rm; rw [e, hgs] at this; simp at this)
    rm := h.rm
    pend := fun t ht => (h.pend t ht).kept (k1.mono fun k hs _ => by
      rcases hs with hs | hs
      · exact hs.elim
      · intro e; have := h.rpend t ht k hs; rw [e, hgs] at this; simp at this)
    rpend := h.rpend
    has := h.has
    rng := fun t ht => by have := h.rng t ht; rw [List.length_set]; exact this
    lt := by rw [k2]; exact h.lt
    size := by rw [List.length_set]; exact h.size
    fuse := h.fuse
    ops := h.ops
    long := h.long }, h2, k1⟩

theorem DvP.cleared {w w' : World} {g : Nat} {ρ : Nat → Option DRol} {N : Nat} {d : Dv} {vs : Value} {gm : Nat} {m : Int → Option Value} (h : DvP w g ρ N d vs gm m) (hm : MapG kInt w' gm 0 (fun _ => none)) (hk : Keep (fun k => k ≠ gm) w w') :
    DvP w' g ρ N { d with pend := fun _ => [] } vs gm (fun _ => none) := {
    head := by rw [hk.block g h.ne h.glt]; exact h.head
    rg := h.rg
    safe := h.safe.kept (hk.mono fun k hs _ => by
      rcases hs with hs | hs
      · exact hs.elim
      · exact (h.nvs k hs).2)
    rsafe := h.rsafe
    map := hm.mono (Nat.zero_le _)
    rm := h.rm
    pend := fun t ht => OwnS.nil _ _ _ _ _
    rpend := fun t ht k hk => by simp [nilS, Value.ownBlock] at hk
    has := fun t ht => by simp
    rng := fun t ht => by simp at ht
    lt := fun k hr => Nat.lt_of_lt_of_le (h.lt k hr) hk.size
    size := h.size
    fuse := h.fuse
    ops := h.ops
    long := fun t => by simp }

def flushF (d : Dv) : Int × Dv := if (opF d 0 0).1 = 0 then (0, { (opF d 0 0).2 with safe := (List.range d.safe.length).map fun (j : Nat) => curF d (j : Int), pend := fun _ => [] }) else opF d 0 0

theorem Flush_nil (w : World) : Calls Try.prog 32 #[.pointer none] w fun e w' => e = .returned (.int .i64 1) ∧ w = w' := by
  go_enter Try.func32, Try.ntmps32
  go_wp2_with fail
  refine (operate_nil _ _ _).mono ?_
  rintro e w1 ⟨rfl, rfl⟩
  go_wp2_with fail
  go_ret
  exact ⟨rfl, rfl⟩

set_option maxRecDepth 100000 in
set_option maxHeartbeats 2000000 in
theorem Flush_any (w : World) (g : Nat) (ρ : Nat → Option DRol) (N : Nat) (d : Dv) (h : DvAt w g ρ N d) (hN : N ≤ 1000000000) :
    Calls Try.prog 32 #[.pointer (some ⟨g, 0, none⟩)] w (WrEnd w g ρ (N + 1) (flushF d)) := by
  have H := hid h
  have hrg : ρ g = some .dev := by obtain ⟨_, _, _, h⟩ := h; exact h.rg
  have HRG := hid hrg
  clear h hrg
  go_enter Try.func32, Try.ntmps32
  go_wp2_with fail
  refine (operate_any w g ρ N d H.out hN 0 0 (by omega) (by omega)).mono ?_
  rintro e w1 ⟨rfl, hd1, hk1⟩
  obtain ⟨hsm1, hsm2⟩ := opF_same d 0 0
  by_cases hx : (opF d 0 0).1 = 0
  · have HFL := hid (show flushF d = (0, { (opF d 0 0).2 with safe := (List.range d.safe.length).map fun (j : Nat) => curF d (j : Int), pend := fun _ => [] }) by unfold flushF; rw [if_pos hx])
    have hcur : ∀ n, curF d n = curF (opF d 0 0).2 n := fun n => by unfold curF; rw [hsm1, hsm2]
    rw [hx]
    generalize (opF d 0 0).2 = d1 at hd1 hsm1 hsm2 HFL hcur
    obtain ⟨vs, gm, m, hp⟩ := hd1
    obtain ⟨gs, sc, e, -⟩ := hp.safe.atBk 0 (by have := hp.size; omega)
    subst e
    obtain ⟨w2, left, cnt, hrun, hmr, hla, hx2, hs2⟩ := hp.map.range Try.underlying90
    have HP := hid hp
    have HP2 := hid (hp.ext hx2)
    have HST := hid (safeL_start hp hla)
    have HMR := hid hmr
    have HX2 := hid hx2
    have HK1 := hid hk1
    have HSM := hid hsm1
    have HEQ := hid (show ((List.range d1.safe.length).map fun (j : Nat) => curF d1 (j : Int)) = (List.range d.safe.length).map fun (j : Nat) => curF d (j : Int) by
      rw [hsm1]
      exact List.map_congr_left fun j _ => (hcur j).symm)
    have c1 := hp.c1
    obtain ⟨r, hr⟩ : ∃ r, r = w1.heap.size := ⟨_, rfl⟩
    rw [← hr] at hrun HMR
    have hgr : g < r := by rw [hr]; exact hp.glt
    have hsr : gs < r := by rw [hr]; exact hp.lt gs (by rw [hp.rsafe gs rfl]; simp)
    have hmrr : gm < r := by rw [hr]; exact hp.map.lt
    have HR := hid hr
    have HRL := hid (fun k (h : ρ k ≠ none) => hp.lt k h)
    have HS2 := hid hs2
    clear hp hmr hla hx2 hk1 hsm1 hsm2 hcur hr hs2 hx
    go_wp2_with fail
    go_loopw [4] (fun _ wr => ∃ left cnt, MapR kInt wr gm r (N + 1) m left cnt ∧ DvP wr g ρ (N + 1) { d1 with safe := safeL d1 left } (.slice (some ⟨gs, 0, none⟩) d1.safe.length sc) gm m ∧ Keep (fun k => ρ k = none ∧ k < r) w1 wr) (fun _ wr => wr.rangeLeft gm r)
    case atStart => exact ⟨left, cnt, HMR.out, by rw [HST.out]; exact HP2.out, HX2.out.keep _⟩
    case round =>
      clear HP HP2 HST HMR c1 hrun HS2 left cnt
      obtain ⟨left, cnt, hmr, hpr, hkr⟩ := hrel
      go_wp2_with (first | (at_next; refine wl_next rfl _ rfl r rfl hmr ?_ ?_) | go_in)
      · intro h0 hl0
        rw [safeL_end hl0] at hpr
        have HPR := hid hpr
        have c1 := hpr.c1
        obtain ⟨w3, hclr, hm3, hk3, hs3⟩ := hmr.map.clear Try.underlying90 0
        have HC3 := hid (hpr.cleared hm3 hk3)
        have HK3 := hid hk3
        have HKR := hid hkr
        have hgm := hpr.rm
        have HGM := hid hgm
        clear hm3 hk3 hkr hpr hgm hmr hs3
        go_wp2_with fail
        go_ret
        refine ⟨by rw [HFL.out]; rfl, ρ, ?_, ?_, fun k h => .inl h⟩
        · rw [HFL.out, ← HEQ.out]
          exact ⟨_, gm, _, HC3.out⟩
        · have k1 : Keep (fun k => ρ k = none ∧ k < r) w w1 := HK1.out.mono fun j hj _ e => by
            have := hj.1
            rw [e, HRG.out] at this
            simp at this
          have k3 : Keep (fun k => ρ k = none ∧ k < r) wr w3 := HK3.out.mono fun j hj _ e => by
            have := hj.1
            rw [e, HGM.out] at this
            simp at this
          exact ((k1.trans HKR.out).trans k3).mono fun j hj hl => ⟨hj, by have := HK1.out.size; have := HR.out; omega⟩
      · intro x v w3 cnt' hxk hmx hlx hmr' hlt hk hs hen
        have hp3 := hpr.keep (hk.mono fun k hk _ e => by have := HRL.out k hk; have := HR.out; omega)
        have hne : d1.pend x ≠ [] := (hpr.has x hxk).1 (by rw [hmx]; rfl)
        obtain ⟨hx0, hx1⟩ := hpr.rng x hne
        have hx1 : x < ((safeL d1 left).length : Int) := hx1
        rw [safeL_len] at hx1
        obtain ⟨xn, rfl⟩ : ∃ xn : Nat, x = xn := ⟨x.toNat, by omega⟩
        have hxn : xn < d1.safe.length := by omega
        obtain ⟨q, hq⟩ : ∃ q, (d1.pend xn).length = q + 1 := ⟨(d1.pend xn).length - 1, by have := List.length_pos_iff.2 hne; omega⟩
        have hpd : OwnS rBk 102 w3 0 (fun _ => False) ((m xn).getD nilS) (d1.pend xn) := hp3.pend xn hxk
        obtain ⟨gl, lc, e, hgl, hlr, hll⟩ := hpd.atBk q (by omega)
        rw [hmx, hq] at e
        simp only [Option.getD_some] at e
        subst e
        have HC := hid (show curF d1 xn = (d1.pend xn)[q] by
          unfold curF
          rw [List.getLast?_eq_getElem?, show (d1.pend xn).length - 1 = q by omega, List.getElem?_eq_getElem (by omega)]; rfl)
        generalize (d1.pend xn)[q] = B at hlr hll HC
        have hq2 : q ≤ 1000000001 := by have : (d1.pend xn).length ≤ N + 1 := hpr.long xn; omega
        obtain ⟨hsz1, hsz2⟩ := hpr.size
        have hsz2 : (safeL d1 left).length ≤ 512 := hsz2
        rw [safeL_len] at hsz2
        have hwq : IntKind.i64.wrap (q : Int) = q := by rw [IntKind.wrap_i64]; omega
        have hqq : (q : Int) < (q : Int) + 1 := by omega
        have c0 := hp3.c0
        have HP3 := hid hp3
        have HKR := hid hkr
        have HMR2 := hid hmr'
        have HMR0 := hid hmr
        have HK := hid hk
        have HLT := hid hlt
        have HBL := hid hll
        clear hp3 hkr hmr' hmr hk hlt hpr hmx hne hpd hq hx0 hx1 hlx hxk hsz1 hs
        go_wp2_with fail
        have hxd : Ext w3 w3.drew := by (· repeat (first | (with_reducible assumption) | exact Ext.refl _ | refine Ext.alloc ?_ _ | refine Ext.drew ?_ | refine Ext.drewN ?_ _ | (apply Ext.snart; (with_reducible assumption))))
        obtain ⟨hp4, hth, hk4⟩ := (HP3.out.ext hxd).setSafe xn (by show _ < (safeL d1 left).length; rw [safeL_len]; exact hxn) HBL.out
        have HP4 := hid hp4
        have HK4 := hid hk4
        have HTH := hid hth
        clear hp4 hk4 hth
        refine wp_region_L (fun w' => w'.cell? ⟨g, 0, none⟩ = some (.slice (some ⟨gs, 0, none⟩) d1.safe.length sc) ∧ w'.rangeAt gl (q * 512) (bvs B)) 12 (by kernel_rfl) ⟨Ext.cellS hxd c0, (World.rangeAt_drew _ _ _ _).2 hlr⟩ (fun hS => ?_)
        (refine wpAnyL_take (i := 0) (v := ?_) rfl (by kernel_rfl) (by kernel_rfl) (by kernel_rfl) (by kernel_rfl) (fun _ _ _ h => h) (Or.inl ⟨by rfl, ?_⟩) (by assumption) ?_; rotate_left; ((intro wS hSw; (try dsimp only at hSw); (try simp only [List.getElem_toArray, List.getElem_cons_zero, List.getElem_cons_succ]); go_simp); (try with_reducible rfl)); (try simp only [Act.put, List.getElem_toArray, List.getElem_cons_zero, List.getElem_cons_succ, List.setIfInBounds_toArray, List.set_cons_zero, List.set_cons_succ]))
        (refine wpAnyL_take (i := 1) (v := ?_) rfl (by kernel_rfl) (by kernel_rfl) (by kernel_rfl) (by kernel_rfl) (fun _ _ _ h => h) (Or.inl ⟨by rfl, ?_⟩) (by assumption) ?_; rotate_left; ((intro wS hSw; (try dsimp only at hSw); (try simp only [List.getElem_toArray, List.getElem_cons_zero, List.getElem_cons_succ]); go_simp); (try with_reducible rfl)); (try simp only [Act.put, List.getElem_toArray, List.getElem_cons_zero, List.getElem_cons_succ, List.setIfInBounds_toArray, List.set_cons_zero, List.set_cons_succ]))
        (refine wpAnyL_take (i := 2) (v := ?_) rfl (by kernel_rfl) (by kernel_rfl) (by kernel_rfl) (by kernel_rfl) (fun _ _ _ h => h) (Or.inl ⟨by rfl, ?_⟩) (by assumption) ?_; rotate_left; ((intro wS hSw; (try dsimp only at hSw); (try simp only [List.getElem_toArray, List.getElem_cons_zero, List.getElem_cons_succ]); go_simp); (try with_reducible rfl)); (try simp only [Act.put, List.getElem_toArray, List.getElem_cons_zero, List.getElem_cons_succ, List.setIfInBounds_toArray, List.set_cons_zero, List.set_cons_succ]))
        (refine wpAnyL_take (i := 3) (v := ?_) rfl (by kernel_rfl) (by kernel_rfl) (by kernel_rfl) (by kernel_rfl) (fun _ _ _ h => h) (Or.inl ⟨by rfl, ?_⟩) (by assumption) ?_; rotate_left; ((intro wS hSw; (try dsimp only at hSw); (try simp only [List.getElem_toArray, List.getElem_cons_zero, List.getElem_cons_succ]); go_simp); (try with_reducible rfl)); (try simp only [Act.put, List.getElem_toArray, List.getElem_cons_zero, List.getElem_cons_succ, List.setIfInBounds_toArray, List.set_cons_zero, List.set_cons_succ]))
        (refine wpAnyL_take (i := 4) (v := ?_) rfl (by kernel_rfl) (by kernel_rfl) (by kernel_rfl) (by kernel_rfl) (fun _ _ _ h => h) (Or.inl ⟨by rfl, ?_⟩) (by assumption) ?_; rotate_left; ((intro wS hSw; (try dsimp only at hSw); (try simp only [List.getElem_toArray, List.getElem_cons_zero, List.getElem_cons_succ]); go_simp); (try with_reducible rfl)); (try simp only [Act.put, List.getElem_toArray, List.getElem_cons_zero, List.getElem_cons_succ, List.setIfInBounds_toArray, List.set_cons_zero, List.set_cons_succ]))
        (refine wpAnyL_take (i := 5) (v := ?_) rfl (by kernel_rfl) (by kernel_rfl) (by kernel_rfl) (by kernel_rfl) (fun _ _ _ h => h) (Or.inl ⟨by rfl, ?_⟩) (by assumption) ?_; rotate_left; ((intro wS hSw; (try dsimp only at hSw); (try simp only [List.getElem_toArray, List.getElem_cons_zero, List.getElem_cons_succ]); go_simp); (try with_reducible rfl)); (try simp only [Act.put, List.getElem_toArray, List.getElem_cons_zero, List.getElem_cons_succ, List.setIfInBounds_toArray, List.set_cons_zero, List.set_cons_succ]))
        (refine wpAnyL_take (i := 6) (v := ?_) rfl (by kernel_rfl) (by kernel_rfl) (by kernel_rfl) (by kernel_rfl) (fun _ _ _ h => h) (Or.inl ⟨by rfl, ?_⟩) (by assumption) ?_; rotate_left; ((intro wS hSw; (try dsimp only at hSw); (try simp only [List.getElem_toArray, List.getElem_cons_zero, List.getElem_cons_succ]); go_simp); (try with_reducible rfl)); (try simp only [Act.put, List.getElem_toArray, List.getElem_cons_zero, List.getElem_cons_succ, List.setIfInBounds_toArray, List.set_cons_zero, List.set_cons_succ]))
        (refine wpAnyL_take (i := 7) (v := ?_) rfl (by kernel_rfl) (by kernel_rfl) (by kernel_rfl) (by kernel_rfl) (fun _ _ _ h => h) (Or.inl ⟨by rfl, ?_⟩) (by assumption) ?_; rotate_left; ((intro wS hSw; (try dsimp only at hSw); (try simp only [List.getElem_toArray, List.getElem_cons_zero, List.getElem_cons_succ]); go_simp); (try with_reducible rfl)); (try simp only [Act.put, List.getElem_toArray, List.getElem_cons_zero, List.getElem_cons_succ, List.setIfInBounds_toArray, List.set_cons_zero, List.set_cons_succ]))
        (refine wpAnyL_take (i := 8) (v := ?_) rfl (by kernel_rfl) (by kernel_rfl) (by kernel_rfl) (by kernel_rfl) (fun _ _ _ h => h) (Or.inl ⟨by rfl, ?_⟩) (by assumption) ?_; rotate_left; ((intro wS hSw; (try dsimp only at hSw); (try simp only [List.getElem_toArray, List.getElem_cons_zero, List.getElem_cons_succ]); go_simp); (try with_reducible rfl)); (try simp only [Act.put, List.getElem_toArray, List.getElem_cons_zero, List.getElem_cons_succ, List.setIfInBounds_toArray, List.set_cons_zero, List.set_cons_succ]))
        (refine wpAnyL_take (i := 9) (v := ?_) rfl (by kernel_rfl) (by kernel_rfl) (by kernel_rfl) (by kernel_rfl) (fun _ _ _ h => h) (Or.inl ⟨by rfl, ?_⟩) (by assumption) ?_; rotate_left; ((intro wS hSw; (try dsimp only at hSw); (try simp only [List.getElem_toArray, List.getElem_cons_zero, List.getElem_cons_succ]); go_simp); (try with_reducible rfl)); (try simp only [Act.put, List.getElem_toArray, List.getElem_cons_zero, List.getElem_cons_succ, List.setIfInBounds_toArray, List.set_cons_zero, List.set_cons_succ]))
        refine wpAnyL_take (i := 10) (v := .agg (bvs B).toArray) rfl (by kernel_rfl) (by kernel_rfl) (by kernel_rfl) (by kernel_rfl) (fun _ _ _ h => h) (yieldsIf_load_mid (by rfl) 102 _ rfl gl (q * 512) rfl (bvs B) _ (fun W hW => hW.2) Try.underlying102 rfl (by rw [infoArr]; simp [bvs, HBL.out])) (by assumption) ?_
        try simp only [Act.put, List.getElem_toArray, List.getElem_cons_zero, List.getElem_cons_succ, List.setIfInBounds_toArray, List.set_cons_zero, List.set_cons_succ]
        (refine wpAnyL_take (i := 11) (v := ?_) rfl (by kernel_rfl) (by kernel_rfl) (by kernel_rfl) (by kernel_rfl) (fun _ _ _ h => h) (Or.inl ⟨by rfl, ?_⟩) (by assumption) ?_; rotate_left; ((intro wS hSw; (try dsimp only at hSw); (try simp only [List.getElem_toArray, List.getElem_cons_zero, List.getElem_cons_succ]); go_simp); (try with_reducible rfl)); (try simp only [Act.put, List.getElem_toArray, List.getElem_cons_zero, List.getElem_cons_succ, List.setIfInBounds_toArray, List.set_cons_zero, List.set_cons_succ]))
        (refine wpAnyL_one (i := 12) (by kernel_rfl) rfl (fun K hK => ?_))
        refine step_storeBk rfl _ _ rfl gs xn B rfl rfl HBL.out HTH.out ?_
        (refine hK.out _ _ (fun h => absurd rfl h) (fun _ => ?_); clear hK K; refine wpAnyL_done (by kernel_rfl) ?_ _)
        refine NoPanic.normal ?_
        go_wp2_with fail
        have hgms : gm ≠ gs := fun e => by have h1 := HP3.out.rm; have h2 := HP3.out.rsafe gs rfl; rw [e, h2] at h1; simp at h1
        have hmr : MapR kInt (w3.drew.setCells gs (xn * 512) (bvs B)) gm r (N + 1) m (fun z => left z && !z.sameKey (.int .i64 (xn : Int))) cnt' :=
          HMR2.out.keep (HK4.out.block gm hgms (by show gm < w3.heap.size; exact HMR2.out.lt.2.1)) (HK4.out.block r (by omega) (by show r < w3.heap.size; exact HMR2.out.lt.1))
        refine ⟨⟨_, ⟨cnt', hmr⟩, ?_, ?_⟩, ?_⟩
        · rw [← safeL_step hxn, HC.out]
          exact HP4.out
        · refine HKR.out.trans (((HK.out.mono (fun k hk _ => by have := hk.2; omega)).trans (hxd.keep _)).trans (HK4.out.mono fun k hk _ e => ?_))
          have h1 := HP3.out.rsafe gs rfl
          have h2 := hk.1
          rw [e, h1] at h2
          simp at h2
        · rw [hmr.left_eq, HMR0.out.left_eq]
          exact HLT.out
  · generalize hX : opF d 0 0 = X at hd1 hx
    have HW := hid (show flushF d = X by unfold flushF; rw [hX, if_neg hx])
    obtain ⟨x1, d1⟩ := X
    dsimp only at hx hd1
    have HD1 := hid hd1
    have HK1 := hid hk1
    clear hd1 hk1 hX hsm1 hsm2
    go_wp2_with fail
    go_ret
    refine ⟨by rw [HW.out]; rfl, ρ, by rw [HW.out]; exact HD1.out, HK1.out.mono fun j hj _ e => ?_, fun k h => .inl h⟩
    rw [e, HRG.out] at hj
    simp at hj
end Go.Proofs.Ytgbiffpnfpdcoaa
