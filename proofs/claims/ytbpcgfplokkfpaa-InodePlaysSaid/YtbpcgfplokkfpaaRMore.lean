/- The document's Cut, At, Copy of a Node, walked. -/
import Derived.Test.YtbpcgfplokkfpaaRExt
import Derived.Test.YtbpcgfplokkfpaaCopyW
namespace Go.Proofs.Ytbpcgfplokkfpaa
open Go.RowKit
set_option linter.unusedVariables false
set_option linter.unusedSimpArgs false

theorem sizeI : (Try.prog.info? 3).map (·.size) = some 1 := by kernel_rfl
theorem RdI.cut {w : World} {cap : Nat} {ad : Option Addr} {xs : List Int} (h : RdI w (.slice ad xs.length cap) xs) (l hi : Nat) (h1 : l ≤ hi) (h2 : hi ≤ xs.length) :
    RdI w (.slice (cutAt ad cap l 1) (hi - l) (cap - l)) ((xs.drop l).take (hi - l)) := by
  have := Rd.cut h l hi h1 h2
  unfold RdI
  rw [show ivs ((xs.drop l).take (hi - l)) = ((ivs xs).drop l).take (hi - l) by simp [ivs], List.length_take, List.length_drop, Nat.min_eq_left (by omega)]
  simpa using this

set_option maxRecDepth 100000 in
set_option maxHeartbeats 400000 in
theorem rAt_bad (w : World) (g : Nat) (q : Option Nat) (s n : Int) (L : List Int) (h : RNodeAt w g q s L) (hs : 0 ≤ s ∧ s ≤ 32768) (hn : -9223372036854775808 ≤ n ∧ n ≤ 9223372036854775807) (hb : n < 0 ∨ s ≤ n) :
    Calls Try.prog 71 #[.pointer (some ⟨g, 0, none⟩), .int .i64 n] w fun e w' => e = .returned (.tuple #[.int .i64 0, .int .i64 0, .int .i64 60]) ∧ Below w.heap.size w w' := by
  obtain ⟨na, nc, c0, c1, -⟩ := h.cells
  have hb2 : n < 0 ∨ (0 ≤ n ∧ s ≤ n) := by omega
  clear hb
  rcases hb2 with hb | ⟨hb, hb2⟩
  all_goals
    go_enter Try.func71, Try.ntmps71
    go_wp2_with fail
    go_ret3
    exact ⟨rfl, by show Ext _ _; (· repeat (first | (with_reducible assumption) | exact Ext.refl _ | refine Ext.alloc ?_ _ | refine Ext.drew ?_ | refine Ext.drewN ?_ _ | (apply Ext.snart; (with_reducible assumption))))⟩

set_option maxRecDepth 100000 in
set_option maxHeartbeats 400000 in
theorem rAt_any (w : World) (g : Nat) (q : Option Nat) (s n b : Int) (L : List Int) (h : RNodeAt w g q s L) (ho : NodeOk s L) (h0 : 0 ≤ n) (h1 : n < s) (hb : L[(n / 512).toNat]? = some b) :
    Calls Try.prog 71 #[.pointer (some ⟨g, 0, none⟩), .int .i64 n] w fun e w' => e = .returned (.tuple #[.int .i64 b, .int .i64 (n % 512), .int .i64 0]) ∧ Below w.heap.size w w' := by
  have hs2 := ho.hi
  have hl64 := ho.len64
  obtain ⟨na, nc, c0, c1, hr, -, -, -, -⟩ := h.cells
  obtain ⟨k, hk⟩ : ∃ k : Nat, n / 512 = (k : Int) := ⟨(n / 512).toNat, by omega⟩
  have hd : n.tdiv 512 = (k : Int) := by rw [Int.tdiv_eq_ediv_of_nonneg h0, hk]
  have hm : n.tmod 512 = n % 512 := Int.tmod_eq_emod_of_nonneg h0
  have hw : IntKind.i64.wrap (k : Int) = (k : Int) := IntWalk.i64_in _ (by omega)
  rw [hk, Int.toNat_natCast] at hb
  obtain ⟨hkl, hbk⟩ := List.getElem?_eq_some_iff.1 hb
  obtain ⟨gr, o, cap, e, hgr, cc⟩ := hr.at k hkl
  simp only [Value.slice.injEq] at e
  obtain ⟨rfl, -, rfl⟩ := e
  rw [hbk] at cc
  have i1 : (k : Int) < (L.length : Int) := by omega
  have i2 : (0 : Int) ≤ (k : Int) := by omega
  have hn5 : ¬ n < 0 := by omega
  have hm2 : IntKind.i64.wrap (n % 512) = n % 512 := IntWalk.i64_in _ (by omega)
  have HK := hid hk
  clear h ho hr hb hbk hk
  go_enter Try.func71, Try.ntmps71
  go_wp2_with fail
  go_ret3
  exact ⟨rfl, by show Ext _ _; (· repeat (first | (with_reducible assumption) | exact Ext.refl _ | refine Ext.alloc ?_ _ | refine Ext.drew ?_ | refine Ext.drewN ?_ _ | (apply Ext.snart; (with_reducible assumption))))⟩

set_option maxRecDepth 100000 in
set_option maxHeartbeats 400000 in
theorem rCut_bad (w : World) (g : Nat) (q : Option Nat) (s n : Int) (L : List Int) (h : RNodeAt w g q s L) (hs : 0 ≤ s ∧ s ≤ 32768) (hn : -9223372036854775808 ≤ n ∧ n ≤ 9223372036854775807) (hb : n < 0 ∨ s < n) :
    Calls Try.prog 70 #[.pointer (some ⟨g, 0, none⟩), .int .i64 n] w fun e w' => e = .returned (.tuple #[.slice none 0 0, .int .i64 60]) ∧ Below w.heap.size w w' := by
  obtain ⟨na, nc, c0, c1, -⟩ := h.cells
  have hb2 : n < 0 ∨ (0 ≤ n ∧ s < n) := by omega
  clear hb
  rcases hb2 with hb | ⟨hb, hb2⟩
  all_goals
    go_enter Try.func70, Try.ntmps70
    go_wp2_with fail
    go_ret2
    exact ⟨rfl, by show Ext _ _; (· repeat (first | (with_reducible assumption) | exact Ext.refl _ | refine Ext.alloc ?_ _ | refine Ext.drew ?_ | refine Ext.drewN ?_ _ | (apply Ext.snart; (with_reducible assumption))))⟩

def RCutEnd (w : World) (g : Nat) (n : Int) (L : List Int) (e : Ending) (w' : World) : Prop :=
  ∃ gv q', e = .returned (.tuple #[gv, .int .i64 0]) ∧ RNodeAt w' g q' n (L.take (nb n).toNat) ∧ OwnR w' w.heap.size gv (whole (L.drop (nb n).toNat)) ∧ Keep (fun k => k ≠ g) w w' ∧ (∀ k, q' = some k → w.heap.size ≤ k)

set_option maxRecDepth 100000 in
set_option maxHeartbeats 2000000 in
theorem rCut_any (w : World) (g : Nat) (q : Option Nat) (s n : Int) (L : List Int) (h : RNodeAt w g q s L) (ho : NodeOk s L) (h0 : 0 ≤ n) (h1 : n ≤ s) :
    Calls Try.prog 70 #[.pointer (some ⟨g, 0, none⟩), .int .i64 n] w (RCutEnd w g n L) := by
  have hs2 := ho.hi
  have hl64 := ho.len64
  have hlen := ho.len
  have hmn := nb_mono h1
  have HBLK0 := hid ho.blk
  have hgw := h.lt
  obtain ⟨na, nc, c0, c1, hr, -, -, hcap, hcap2⟩ := h.cells
  obtain ⟨vr, hblk, -⟩ := id h
  obtain rfl : vr = .slice na L.length nc := by
    have := c1
    rw [cell_of_row _ _ _ _ _ _ hblk] at this
    simpa using this
  have HQ := hid h
  obtain ⟨K, hK⟩ : ∃ K : Nat, nb n = (K : Int) := ⟨(nb n).toNat, by have := nb_lo h0; omega⟩
  have hKt : (nb n).toNat = K := by omega
  have hKL : K ≤ L.length := by omega
  have HKT := hid hKt
  have HK := hid hK
  have HR := hid hr
  have hd := hr.cut K L.length hKL (Nat.le_refl _)
  rw [List.take_of_length_le (by simp)] at hd
  have HD := hid hd
  have ht := hr.cut 0 K (Nat.zero_le _) hKL
  rw [List.drop_zero, Nat.sub_zero] at ht
  have HT := hid ht
  have HBLK := hid hblk
  have hldrop : (L.drop K).length = L.length - K := by simp
  have hltake : (L.take K).length = K := by rw [List.length_take]; omega
  have HLD := hid hldrop
  have HLT := hid hltake
  have hK64 : K ≤ 64 := by omega
  clear h ho hr hd ht hblk hKt hK hmn hldrop hltake
  go_enter Try.func70, Try.ntmps70
  go_wp2_with (first | (have KEY := HX2; (with_reducible refine at_slice ?_); go_must (refine wl_slice_h rfl rfl Try.underlying22 sizeI rfl rfl K rfl ?_ ?_; omega)) | ((with_reducible refine at_slice ?_); go_must (refine wl_slice_l rfl rfl Try.underlying22 sizeI rfl rfl K rfl ?_ ?_; omega)) | (fail) | (go_at_call 81; refine (rneed_any _ n h0 (by omega)).mono ?_; rw [HK.out]; rintro e w1 ⟨rfl, rfl⟩) | (go_at_call 61; go_must (refine (Whole_any w _ (L.drop K) HD.out (by rw [HLD.out]; omega) (fun b hb => HBLK0.out b (List.mem_of_mem_drop hb))).mono ?_; rintro e w2 ⟨gv, rfl, hgv, -, hb2⟩; have hx2 := Ext.of hb2; have d1 := hx2.cellS c1; have HGV := hid hgv; have HX2 := hid hx2; have HTW := hid ((HT.out.ext hx2).ext ((Ext.refl w2).alloc (.cells #[] 3))); have D1 := ((Ext.refl w2).alloc (.cells #[] 3)).cellS d1; have hgw2 : g < w2.heap.size := (Nat.lt_of_lt_of_le hgw hx2.size); clear hb2 hgv)) | (at_builtin; go_must (refine wl_appI rfl _ _ _ rfl w2.heap.size (.slice (some ⟨w2.heap.size, 0, none⟩) 0 0) [] rfl (own_madeI w2) _ (L.take K) rfl (src_I HTW.out) (by simp <;> omega) (by simp) ?_; intro v4 w4 m1 m4 m5 m6; clear m4 m6; rw [List.nil_append] at m1; obtain ⟨a4, q4, rfl⟩ := OwnI.slice m1; rw [HLT.out] at m1 ⊢; have HO4 := hid m1; have HX24 := hid (Ext.step ((Ext.refl w2).alloc _) m5 (Nat.le_refl _)); have hbk := (Below.block (HX2.out.trans HX24.out) g hgw).trans HBLK.out; have f40 := frozen_row hbk 0; have f41 := frozen_row hbk 1; have c40 := (HX2.out.trans HX24.out).cellS c0; have c41 := (HX2.out.trans HX24.out).cellS c1; have HBK := hid hbk; clear hbk m1 m5 D1 d1)))
  go_ret2
  have hlt4 := fun b hb => OwnI.lt HO4.out b hb
  have hsz2 := HX2.out.size
  have hkeep : Keep (fun b => b ≠ g) w4 ((w4.setCell ⟨g, 1, none⟩ (.slice a4 K q4)).setCell ⟨g, 0, none⟩ (.int .i64 n)) := ((Keep.refl _ w4).setCell (by simp) _).setCell (by simp) _
  refine ⟨gv, (Value.slice a4 K q4).ownBlock, rfl, ?_, ?_, ((HX2.out.trans HX24.out).keep _).trans hkeep, fun b hb => ?_⟩
  · rw [HKT.out]
    exact ⟨_, by rw [set_row (set_row HBK.out _) _]; rfl, HO4.out.rd.keep hkeep (fun _ b hb => by have := (hlt4 b hb).1; omega), rfl, fun e => by have := (hlt4 g e).1; omega, fun b hb => by have := (hlt4 b hb).2; have := hkeep.size; omega⟩
  · rw [HKT.out]
    exact (HGV.out.ext HX24.out).keep hkeep (fun b hb => by have := (HGV.out.lt b hb).1; omega)
  · have := (hlt4 b hb).1
    omega

theorem wp_appI {w : World} {o : Oper} {a : Act} {K : Act → World → Prop} {Q : Exit → Act → World → Prop} (s x : Operand) (tx : TypeId)
    (ho : o.op = .call { callee := .builtin .append, args := #[s, x], argTypes := #[22, tx] }) (base : Nat)
    (v : Value) (l : List Int) (hs : a.eval s = v) (happ : OwnI w base v l)
    (y : Value) (m : List Int) (hx : a.eval x = y) (hsrc : Src Try.prog 1 tx y m.length (ivs m) w)
    (hbytes : (l.length + m.length) * 8 ≤ 140737488355328) (hbase : base ≤ w.heap.size)
    (h : ∀ v' w', OwnI w' base v' (l ++ m) → w.grownBy w' v.ownBlock → Below base w w' → (∀ k, v'.ownBlock = some k → v.ownBlock = some k ∨ w.heap.size ≤ k) → K (a.put o.dst v') w') : o.wp Try.prog a w K Q := by
  obtain ⟨i0, hi, hz0, hz1, hz2⟩ := info_parts infoI
  refine wp_append_app s x 22 tx ho base 3 i0 (.int .i64 0) 1 8 Try.underlying22 hi hz0 hz1 hz2 rfl v l.length (ivs l) hs (.inl happ) (ivs_one l) y m.length (ivs m) hx hsrc (by omega) (by omega) hbase ?_
  intro v' w' h1 h2 h3 h4 h5 h6
  have := h3 happ
  rw [← List.length_append, show ivs l ++ ivs m = ivs (l ++ m) from by simp [ivs]] at this
  exact h v' w' this h4 h5 h6
theorem step_appI {w : World} {ops : Array Oper} {o : Oper} {a : Act} {K : Act → World → Prop} {Q : Exit → Act → World → Prop} {E : Prop} (hgd : o.guard = none) (s x : Operand) (tx : TypeId)
    (ho : o.op = .call { callee := .builtin .append, args := #[s, x], argTypes := #[22, tx] }) (base : Nat)
    (v : Value) (l : List Int) (hs : a.eval s = v) (happ : OwnI w base v l)
    (y : Value) (m : List Int) (hx : a.eval x = y) (hsrc : Src Try.prog 1 tx y m.length (ivs m) w)
    (hbytes : (l.length + m.length) * 8 ≤ 140737488355328) (hbase : base ≤ w.heap.size)
    (h : ∀ v' w', OwnI w' base v' (l ++ m) → w.grownBy w' v.ownBlock → Below base w w' → (∀ k, v'.ownBlock = some k → v.ownBlock = some k ∨ w.heap.size ≤ k) → K (a.put o.dst v') w') :
    if Region.wanted o (yielded ops a.tmps) = true then Oper.wp Try.prog o a w K Q else E := by
  have hw : Region.wanted o (yielded ops a.tmps) = true := by simp [Region.wanted, hgd]
  rw [if_pos hw]
  exact wp_appI s x tx ho base v l hs happ y m hx hsrc hbytes hbase h

set_option maxRecDepth 100000 in
set_option maxHeartbeats 2000000 in
theorem rCopy_any (w : World) (g : Nat) (q : Option Nat) (s : Int) (L : List Int) (h : RNodeAt w g q s L) (hl : L.length ≤ 1000000) :
    Calls Try.prog 47 #[.pointer (some ⟨g, 0, none⟩)] w fun e w' => ∃ g' q', e = .returned (.pointer (some ⟨g', 0, none⟩)) ∧ RNodeAt w' g' q' s L ∧ w.heap.size ≤ g' ∧ (∀ k, q' = some k → w.heap.size ≤ k) ∧ Below w.heap.size w w' := by
  obtain ⟨a, cap, c0, c1, hr, -, -, -, -⟩ := h.cells
  have hg := h.lt
  have HR := hid hr
  clear h hr
  go_enter Try.func47, Try.ntmps47
  go_wp2_with fail
  go_region_held3 (fun w' => w'.cell? ⟨g, 0, none⟩ = some (.int .i64 s) ∧ w'.cell? ⟨g, 1, none⟩ = some (.slice a L.length cap)) (first | go_keep | (go_split_ands; exact ⟨Ext.cellS hx' (by assumption), Ext.cellS hx' (by assumption)⟩) | (go_split_ands; exact ⟨Ext.cellS ((Ext.refl _).alloc _) (by assumption), Ext.cellS ((Ext.refl _).alloc _) (by assumption)⟩)) (((with_reducible refine at_step_append ?_); go_must (refine step_appI rfl _ _ _ rfl w.heap.size (.slice (some ⟨w.heap.size, 0, none⟩) 0 0) [] rfl (own_madeI _) _ L rfl (src_I (HR.out.ext (by (· repeat (first | (with_reducible assumption) | exact Ext.refl _ | refine Ext.alloc ?_ _ | refine Ext.drew ?_ | refine Ext.drewN ?_ _ | (apply Ext.snart; (with_reducible assumption))))))) (by simp <;> omega) (by simp) ?_; intro v' w' k1 k4 k5 k6; have hx' := Ext.step (show Ext w _ by (· repeat (first | (with_reducible assumption) | exact Ext.refl _ | refine Ext.alloc ?_ _ | refine Ext.drew ?_ | refine Ext.drewN ?_ _ | (apply Ext.snart; (with_reducible assumption))))) k5 (Nat.le_refl _); rw [List.nil_append] at k1; obtain ⟨va, vc, rfl⟩ := OwnI.slice k1; have HO := hid k1; clear k1 k4 k5 k6)))
  all_goals
    go_wp2_with fail
    go_ret
    refine ⟨_, (Value.slice va L.length vc).ownBlock, rfl, ⟨_, heap_alloc_new _ _, (HO.out.ext ((Ext.refl _).alloc _)).rd, rfl, fun e => ?_, fun k hk => ?_⟩, hx'.size, fun k hk => ?_, by show Ext _ _; exact hx'.alloc _⟩
    · have := (OwnI.lt HO.out _ e).2; omega
    · have := (OwnI.lt HO.out _ hk).2; simp; omega
    · have := (OwnI.lt HO.out _ hk).1; exact this
end Go.Proofs.Ytbpcgfplokkfpaa
