/- cartularylaw02.do: a crash on both; all kinds. -/
import Derived.Test.YtgbiffpnfpdcoaaRb8
namespace Go.Proofs.Ytgbiffpnfpdcoaa
open Go.RowKit Go.Maps
set_option linter.unusedVariables false
set_option linter.unusedSimpArgs false

theorem sizeI02 : (Try.prog.info? 3).map (·.size) = some 1 := by kernel_rfl
/-- x[:h] in a region that draws -/
theorem step_slice_h {P : Program} {w : World} {ops : Array Oper} {o : Oper} {a : Act} {K : Act → World → Prop} {Q : Exit → Act → World → Prop} {E : Prop} {t e : TypeId} {x hi : Operand} {size : Nat} {ad : Option Addr} {n cap : Nat} {k2 : IntKind} {i2 : Int} (hgd : o.guard = none) (ho : o.op = .slice t x none (some hi) none) (ht : P.underlying t = some (.slice e)) (hz : (P.info? e).map (·.size) = some size)
    (hx : a.eval x = .slice ad n cap) (h2 : a.eval hi = .int k2 i2) (h : Nat) (e2 : i2 = h) (b2 : h ≤ cap)
    (hK : K (a.put o.dst (.slice (cutAt ad cap 0 size) (h - 0) (cap - 0))) w) : if Region.wanted o (yielded ops a.tmps) = true then Oper.wp P o a w K Q else E := by
  have hw : Region.wanted o (yielded ops a.tmps) = true := by simp [Region.wanted, hgd]
  rw [if_pos hw]
  obtain ⟨i, hi', hs⟩ := Option.map_eq_some_iff.1 hz
  unfold Oper.wp execOp
  simp only [ho, Sem.run_bind, Sem.run_pure, Result.andThen_ok, Option.map_some, Option.map_none, hx, h2, Instr.sliceAt, Instr.slice, run_underlying ht, Instr.sliceBounds, bound_ok w k2 i2 h cap _ e2 b2, sizeOf, typeInfo]
  simp only [show (program : Sem Program) = .program .pure from rfl, Sem.run, hi', Sem.run_pure, Result.andThen_ok, hs]
  exact hK

theorem src7 (w : World) : Src Try.prog rI.size 33 (.slice (some ⟨w.heap.size, 0, none⟩) 1 1) [([Value.int .i64 7], (7 : Int))].length (cellsOf [([Value.int .i64 7], (7 : Int))]) (w.alloc (.cells #[.int .i64 7] 3)) := by
  have := src_row (size := rI.size) Try.underlying33 (heap_alloc_new w (.cells #[.int .i64 7] 3)) (fun u hu => by obtain rfl := List.mem_singleton.1 hu; rfl) rfl
  simpa [cellsOf] using this
theorem all7 (w : World) : ∀ p ∈ [([Value.int .i64 7], (7 : Int))], rI.rd w (fun _ => False) p.1 p.2 := fun p hp => by
  obtain rfl := List.mem_singleton.1 hp
  exact ⟨rfl, by decide⟩

theorem mid5 {wb w5 w6 : World} {b n5 c5 : Nat} {a5 : Option Addr} {xs : List Int} {Y Z : Obj} (hz : wb.heap.size = b) (K1 : OwnS rI 3 w5 b (fun _ => False) (.slice a5 n5 c5) xs) (K2 : (wb.alloc Y).grownBy w5 (Value.slice (some ⟨b, 0, none⟩) 0 0).ownBlock) (K4 : (w5.alloc Z).grownBy w6 (Value.slice a5 n5 c5).ownBlock) : Ext wb w6 := by
  have q1 : Ext wb w5 := Keep.ext ((((Ext.refl wb).alloc Y).keep (fun k => k < b)).trans ((keep_grown K2).mono fun k hk _ e => by simp only [Value.ownBlock, Option.map_some, Option.some.injEq] at e; omega) |>.mono fun k _ hl => by omega)
  exact Keep.ext ((((q1.alloc Z).keep (fun k => k < b)).trans ((keep_grown K4).mono fun k hk _ e => by have := (K1.lt k e.symm).1; omega)) |>.mono fun k _ hl => by omega)

theorem sliceC7 {w : World} {b : Nat} {v : Value} {picks : List Int} (h : OwnS rI 3 w b (fun _ => False) v (picks ++ List.map (fun x => x.snd) [([Value.int .i64 7], (7 : Int))])) :
    ∃ a c, v = .slice a (picks.length + 1) c ∧ picks.length + 1 ≤ c ∧ OwnS rI 3 w b (fun _ => False) (.slice a (picks.length + 1) c) (picks ++ [7]) := by
  obtain ⟨a, c, e, h1, h2⟩ := h.rd.slice
  simp only [List.length_append, List.length_map, List.length_cons, List.length_nil] at e h1
  subst e
  exact ⟨a, c, rfl, h1, h⟩

theorem cut_self (ad : Option Addr) (cap size : Nat) : cutAt ad cap 0 size = ad := by
  unfold cutAt
  by_cases hc : cap = 0
  · rw [if_pos hc]
  · rw [if_neg hc]
    cases ad with
    | none => rfl
    | some a => simp [Addr.add]
theorem cut0 {w : World} {S : Nat → Prop} {cap n : Nat} {ad : Option Addr} {xs : List Int} (h : RdS rI w S (.slice ad n cap) xs) (k : Nat) (hk : k ≤ xs.length) : RdS rI w S (.slice ad k cap) (xs.take k) := by
  have h1 := h.cut 0 k (Nat.zero_le _) hk
  rw [cut_self] at h1
  simpa using h1

set_option maxRecDepth 100000 in
set_option maxHeartbeats 4000000 in
theorem do5_any {w : World} {B M g rg : Nat} {ρ : Nat → Option DRol} {R : Nat → Prop} {d : Dv} (h : Pr w B M g rg ρ R d) (hM : M ≤ 900000) (two : Bool) (n fill : Int) (hn : -9223372036854775808 ≤ n ∧ n ≤ 9223372036854775807) (picks : List Int) (head : ByteArray) (pa : Option Addr) (pl pc : Nat) (hp : RdS rI w (fun k => k < B) (.slice pa pl pc) picks) (hBw : B ≤ w.heap.size) (hpb : picks.length * 8 ≤ 140737488351232) :
    Calls Try.prog 40 #[.pointer (some ⟨g, 0, none⟩), .pointer (some ⟨rg, 0, none⟩), .agg #[.int .i64 5, .bool two, .int .i64 n, .int .i64 fill, .string head, .slice pa pl pc]] w (DoEnd w B M g rg ρ R) := by
  obtain ⟨sv, pv, rf, P, hr, hR⟩ := h.ref
  have H := hid h
  have HRR := hid hR
  have HR := hid hr
  have HN := hid hn
  have hbx : ρ w.heap.size = none := by
    by_cases e : ρ w.heap.size = none
    · exact e
    · have := h.dv.lt' e; omega
  have hbx2 : ¬ RBl rg sv pv w.heap.size := fun e => by have := (hr.lt e).2; omega
  have HBX := hid hbx
  have hgg : w.heap.size ≠ g := by
    intro e; rw [e] at hbx
    obtain ⟨_, _, _, hp⟩ := h.dv
    rw [hp.rg] at hbx; cases hbx
  have HBX2 := hid hbx2
  have HGG := hid hgg
  have HNG := hid (show ∀ k, ρ k = none → k ≠ g from fun k hk e => by
    rw [e] at hk
    obtain ⟨_, _, _, hp⟩ := h.dv
    rw [hp.rg] at hk; cases hk)
  clear h hr hR hn hbx hbx2 hgg
  go_enter Try.func40, Try.ntmps40
  obtain ⟨wb, hwb⟩ : ∃ wb, wb = w.alloc (.cells #[.int .i64 5, .bool two, .int .i64 n, .int .i64 fill, .string head, .slice pa pl pc] 46) := ⟨_, rfl⟩
  have hxb : Ext w wb := by rw [hwb]; exact (Ext.refl _).alloc _
  have hrb : wb.heap[w.heap.size]? = some (.cells #[.int .i64 5, .bool two, .int .i64 n, .int .i64 fill, .string head, .slice pa pl pc] 46 (0, 0)) := by rw [hwb]; exact heap_alloc_new _ _
  have hzb : wb.heap.size = w.heap.size + 1 := by rw [hwb]; simp
  obtain ⟨_, _, hpe, hpl2, hpc⟩ := hp.slice
  simp only [Value.slice.injEq] at hpe
  obtain ⟨rfl, rfl, rfl⟩ := hpe
  have c5 := (cell_of_row _ _ 5 _ _ _ hrb).trans rfl
  have hpb' : RdS rI wb (fun k => k < B) (.slice pa picks.length pc) picks := hp.ext hxb
  obtain ⟨gs, hgs, hsrc, hall⟩ := (hpb'.ext ((Ext.refl wb).alloc (.cells #[] 3))).src Try.underlying33
  have hgl : gs.length = picks.length := by rw [hgs, List.length_map]
  have HA := OwnS.made rI 3 wb (fun _ => False) (fun h => h)
  rw [hzb] at HA
  have HHA := hid HA
  have HHS := hid hsrc
  have HALL := hid (show ∀ p ∈ gs, rI.rd (wb.alloc (.cells #[] 3)) (fun _ => False) p.1 p.2 from fun p hp => hall p hp)
  have HB1 := hid (show (([] : List Int).length + gs.length) * 8 ≤ 140737488355328 by simp only [List.length_nil]; omega)
  have HB2 := hid (show ([] : List Int).length + gs.length ≤ 9223372036854775807 by simp only [List.length_nil]; omega)
  have HB3 := hid (show (w.heap.size + 1 ≤ (wb.alloc (.cells #[] 3)).heap.size) by simp; omega)
  have HB4 := hid (show (picks.length + [([Value.int .i64 7], (7 : Int))].length) * 8 ≤ 140737488355328 by simp only [List.length_cons, List.length_nil]; omega)
  have HB5 := hid (show picks.length + [([Value.int .i64 7], (7 : Int))].length ≤ 9223372036854775807 by simp only [List.length_cons, List.length_nil]; omega)
  have HGS := hid hgs
  have HPB := hid hpb'
  have HXB := hid hxb
  have HRB := hid hrb
  have HZB := hid hzb
  have HPP := hid hpb
  have HWB := hid hwb
  have HRBX := hid hrb
  have HZX := hid hzb
  have HP := hid hp
  clear hpb' hgs hsrc hall hgl HA hxb hrb hzb hp hpb c5
  rw [hwb] at HHA HHS HALL HB3 HRBX HZX
  clear hwb
  go_wp2_with (at_builtin; first
    | (refine wl_appS rI rfl _ _ _ _ _ (.int .i64 0) 8 rfl Try.underlying33 infoI1 rfl (w.heap.size + 1) (fun _ => False) _ [] rfl HHA.out _ gs rfl HHS.out HALL.out (fun _ h => h.elim) HB1.out HB2.out HB3.out ?_; intro v5 w5 k1 k2 k3; rw [List.nil_append, ← HGS.out] at k1; obtain ⟨a5, c5', hv5⟩ := k1.slice; subst hv5; have K1 := hid k1; have K2 := hid k2; have HZ5 := hid (Nat.le_trans HB3.out (Nat.le_trans (keep_grown k2).size (Ext.size ((Ext.refl w5).alloc (.cells #[.int .i64 7] 3))))); clear k1 k2 k3 HHA HHS HALL HB3)
    | (refine wl_appS rI rfl _ _ _ _ _ (.int .i64 0) 8 rfl Try.underlying33 infoI1 rfl (w.heap.size + 1) (fun _ => False) _ picks rfl (K1.out.ext ((Ext.refl w5).alloc (.cells #[.int .i64 7] 3))) _ [([Value.int .i64 7], (7 : Int))] rfl (src7 w5) (all7 _) (fun _ h => h.elim) HB4.out HB5.out HZ5.out ?_; intro v6 w6 k1 k4 k3; obtain ⟨a6, c6', hv6, q61, k6⟩ := sliceC7 k1; subst hv6; have hx6 := mid5 HZX.out K1.out K2.out k4; have c5 := (cell_of_row _ _ 5 _ _ _ (row_ext hx6 HRBX.out)).trans rfl; have K3 := hid k6; have X6 := hid hx6; clear k1 k4 k3 k6 hx6)
    | ((with_reducible refine at_slice ?_); go_must (refine wl_slice_h rfl rfl Try.underlying33 sizeI02 rfl rfl picks.length rfl ?_ ?_; omega)))
  have hx6 := X6.out
  rw [← HWB.out] at hx6
  have hz6 := hx6.size
  have hlo6 := K3.out.lt
  have hown6 : ∀ k, (Value.slice a6 (picks.length + 1) c6').ownBlock = some k → w.heap.size < k ∧ k < w6.heap.size := fun k hk => by have := hlo6 k hk; omega
  have hnr6 : ∀ k, w.heap.size ≤ k → ρ k = none := fun k hk => by
    by_cases e : ρ k = none
    · exact e
    · have := H.out.dv.lt' e; omega
  have hnR6 : ∀ k, w.heap.size ≤ k → ¬ RBl rg sv pv k := fun k hk e => by have := (HR.out.lt e).2; omega
  have HNR := hid hnr6
  have HNB := hid hnR6
  have HOW := hid hown6
  have HX6 := hid (HXB.out.trans hx6)
  have HBOX6 := hid (row_ext hx6 HRB.out)
  have HZ6 := hid (show w.heap.size < w6.heap.size by have := HZB.out; omega)
  have hP6 : RdS rI w6 (fun k => k < B) (.slice pa picks.length pc) picks := HP.out.ext HX6.out
  have HP6 := hid hP6
  clear hx6 hz6 hlo6 hown6 hnr6 hnR6 hP6 c5
  refine (Crash_any w6 g ρ M d (H.out.dv.ext HX6.out) (by omega) _ _ picks ((show (picks ++ [7]).take picks.length = picks by simp) ▸ cut0 K3.out.rd picks.length (by simp)) (fun k hk _ => by
    rcases hk with hk | hk
    · exact hk.elim
    · exact HNR.out k (Nat.le_of_lt (HOW.out k hk).1))).mono ?_
  rintro e w7 ⟨rfl, hd7, hk7⟩
  have hr7 : RAt w7 B M rg sv pv rf d P := H.out.ref1 HR.out HRR.out ((HX6.out.keep _).trans hk7) (Ext.refl _)
  have HK7 := hid hk7
  have HD7 := hid hd7
  have HR7 := hid hr7
  have HBOX7 := hid (row_past hk7 HBOX6.out HBX.out)
  have HP7 := hid (HP6.out.kept (hk7.mono fun k hk _ => by
    by_cases e : ρ k = none
    · exact e
    · have := H.out.low k e; omega))
  have HO7 := hid (K3.out.kept (hk7.mono fun k hk _ => by
    rcases hk with hk | hk
    · exact hk.elim
    · exact HNR.out k (Nat.le_of_lt (HOW.out k hk).1)))
  have c5 := (cell_of_row _ _ 5 _ _ _ HBOX7.out).trans rfl
  clear hk7 hd7 hr7
  go_wp2_with fail
  refine (RCrash_any HR7.out (by omega) _ _ picks HP7.out (fun k hk _ e => by have := (HR.out.lt e).1; omega)).mono ?_
  rintro e w8 ⟨rfl, ⟨rf8, hr8⟩, hk8⟩
  have HK8 := hid hk8
  have HR8 := hid hr8
  have hbox8 := (hk8.block _ (HNB.out _ (Nat.le_refl _)) (Array.getElem?_eq_some_iff.1 HBOX7.out).1).trans HBOX7.out
  have HP8 := hid (HP7.out.kept (hk8.mono fun k hk _ e => by have := (HR.out.lt e).1; omega))
  have HO8 := hid (HO7.out.kept (hk8.mono fun k hk _ => by
    rcases hk with hk | hk
    · exact hk.elim
    · exact HNB.out k (Nat.le_of_lt (HOW.out k hk).1)))
  have c5 := (cell_of_row _ _ 5 _ _ _ hbox8).trans rfl
  clear hk8 hr8 hbox8
  go_wp2_with fail
  have hxd : Ext w8 w8.drew := by (· repeat (first | (with_reducible assumption) | exact Ext.refl _ | refine Ext.alloc ?_ _ | refine Ext.drew ?_ | refine Ext.drewN ?_ _ | (apply Ext.snart; (with_reducible assumption))))
  have HXD := hid hxd
  refine wp_region_T (fun w' => w'.cell? ⟨w.heap.size, 5, none⟩ = some (.slice pa picks.length pc)) [] (by kernel_rfl) (Ext.cellS hxd c5) (fun hS => ?_)
  clear hxd
  (refine wpAnyT_take (i := 0) (v := ?_) rfl (by kernel_rfl) (by kernel_rfl) (by kernel_rfl) (by kernel_rfl) (fun _ _ _ h => h) (Or.inl ⟨by rfl, ?_⟩) (by assumption) ?_; rotate_left; ((intro wS hSw; (try dsimp only at hSw); (try simp only [List.getElem_toArray, List.getElem_cons_zero, List.getElem_cons_succ]); go_simp); (try with_reducible rfl)); (try simp only [Act.put, List.getElem_toArray, List.getElem_cons_zero, List.getElem_cons_succ, List.setIfInBounds_toArray, List.set_cons_zero, List.set_cons_succ]))
  (refine wpAnyT_take (i := 1) (v := ?_) rfl (by kernel_rfl) (by kernel_rfl) (by kernel_rfl) (by kernel_rfl) (fun _ _ _ h => h) (Or.inl ⟨by rfl, ?_⟩) (by assumption) ?_; rotate_left; ((intro wS hSw; (try dsimp only at hSw); (try simp only [List.getElem_toArray, List.getElem_cons_zero, List.getElem_cons_succ]); go_simp); (try with_reducible rfl)); (try simp only [Act.put, List.getElem_toArray, List.getElem_cons_zero, List.getElem_cons_succ, List.setIfInBounds_toArray, List.set_cons_zero, List.set_cons_succ]))
  (refine wpAnyT_take (i := 2) (v := ?_) rfl (by kernel_rfl) (by kernel_rfl) (by kernel_rfl) (by kernel_rfl) (fun _ _ _ h => h) (Or.inl ⟨by rfl, ?_⟩) (by assumption) ?_; rotate_left; ((intro wS hSw; (try dsimp only at hSw); (try simp only [List.getElem_toArray, List.getElem_cons_zero, List.getElem_cons_succ]); go_simp); (try with_reducible rfl)); (try simp only [Act.put, List.getElem_toArray, List.getElem_cons_zero, List.getElem_cons_succ, List.setIfInBounds_toArray, List.set_cons_zero, List.set_cons_succ]))
  (refine wpAnyT_take (i := 5) (v := ?_) rfl (by kernel_rfl) (by kernel_rfl) (by kernel_rfl) (by kernel_rfl) (fun _ _ _ h => h) (Or.inl ⟨by rfl, ?_⟩) (by assumption) ?_; rotate_left; ((intro wS hSw; (try dsimp only at hSw); (try simp only [List.getElem_toArray, List.getElem_cons_zero, List.getElem_cons_succ]); go_simp); (try with_reducible rfl)); (try simp only [Act.put, List.getElem_toArray, List.getElem_cons_zero, List.getElem_cons_succ, List.setIfInBounds_toArray, List.set_cons_zero, List.set_cons_succ]))
  (refine wpAnyT_take (i := 6) (v := ?_) rfl (by kernel_rfl) (by kernel_rfl) (by kernel_rfl) (by kernel_rfl) (fun _ _ _ h => h) (Or.inl ⟨by rfl, ?_⟩) (by assumption) ?_; rotate_left; ((intro wS hSw; (try dsimp only at hSw); (try simp only [List.getElem_toArray, List.getElem_cons_zero, List.getElem_cons_succ]); go_simp); (try with_reducible rfl)); (try simp only [Act.put, List.getElem_toArray, List.getElem_cons_zero, List.getElem_cons_succ, List.setIfInBounds_toArray, List.set_cons_zero, List.set_cons_succ]))
  refine wpAnyT_all (rs := [3]) (by kernel_rfl) (by decide) (AllT.consS rfl (fun K hK => ?_) AllT.nil)
  go_simp
  (refine hK.out _ _ (hS) (fun hS => ?_); clear hK K)
  refine wpAnyT_all (rs := [4]) (by kernel_rfl) (by decide) (AllT.consS rfl (fun K hK => ?_) AllT.nil)
  refine step_slice_h rfl rfl Try.underlying33 sizeI02 rfl rfl picks.length rfl (by omega) ?_
  rw [cut_self, Nat.sub_zero, Nat.sub_zero]
  (refine hK.out _ _ (hS) (fun hS => ?_); clear hK K)
  refine wpAnyT_all (rs := [7]) (by kernel_rfl) (by decide) (AllT.consS rfl (fun K hK => ?_) AllT.nil)
  go_simp
  go_at_call 64
  have hpre : RdI w8 (.slice a6 picks.length c6') picks := (rdS_ints ((show (picks ++ [7]).take picks.length = picks by simp) ▸ cut0 HO8.out.rd picks.length (by simp))).1
  refine (SameInts_any _ _ _ picks picks (hpre.ext HXD.out) ((rdS_ints HP8.out).1.ext HXD.out)).mono ?_
  rintro e w9 ⟨rfl, hb9⟩
  have hx9 : Ext w8 w9 := HXD.out.trans (Ext.of hb9)
  have HX9 := hid hx9
  simp only [decide_true]
  (refine hK.out _ _ (Ext.cellS hx9 c5) (fun hS => ?_); clear hK K)
  refine wpAnyT_all (rs := [8]) (by kernel_rfl) (by decide) (AllT.consS rfl (fun K hK => ?_) AllT.nil)
  go_simp
  (refine hK.out _ _ (hS) (fun hS => ?_); clear hK K)
  refine wpAnyT_done (by kernel_rfl) (NoPanic.normal ?_) _
  obtain ⟨ga, oa, ca, e, hga, -, hca, -⟩ := (HO8.out.ext hx9).rd.atI picks.length (by simp)
  simp only [Value.slice.injEq] at e
  obtain ⟨rfl, -, rfl⟩ := e
  have h7 : (picks ++ [7])[picks.length]'(by simp) = 7 := by simp
  rw [h7] at hca
  have d1 : decide (true = true) = true := rfl
  have i1 : (picks.length : Int) < (picks.length : Int) + 1 := by omega
  have i2 : (0 : Int) ≤ (picks.length : Int) := by omega
  clear hpre hb9 hx9 h7
  go_wp2_with fail
  go_ret

  exact ⟨rfl, _, H.out.next HR.out HRR.out (HD7.out.mono (by omega)) ((HX6.out.keep _).trans HK7.out) (fun k hk => .inl hk) (Ext.refl _) (HR8.out.mono (by omega)) HK8.out (fun k hk => by
    rcases hk with hk | hk | hk
    · exact .inl (.inl hk)
    · exact .inl (.inr (.inl hk))
    · simp [Value.ownBlock] at hk) (HX9.out.keep _)⟩

/-- any call -/
theorem do02_any {w : World} {B M g rg : Nat} {ρ : Nat → Option DRol} {R : Nat → Prop} {d : Dv} (h : Pr w B M g rg ρ R d) (hM : M ≤ 900000) (kd : Int) (two : Bool) (n fill : Int) (hn : -9223372036854775808 ≤ n ∧ n ≤ 9223372036854775807) (hf : -9223372036854775808 ≤ fill ∧ fill ≤ 9223372036854775807) (head : ByteArray) (hhd : head.size ≤ 9223372036854775807) (pv : Value) (picks : List Int) (hp : RdS rI w (fun k => k < B) pv picks) (hBw : B ≤ w.heap.size) (hpb : picks.length * 8 ≤ 140737488351232) :
    Calls Try.prog 40 #[.pointer (some ⟨g, 0, none⟩), .pointer (some ⟨rg, 0, none⟩), .agg #[.int .i64 kd, .bool two, .int .i64 n, .int .i64 fill, .string head, pv]] w (DoEnd w B M g rg ρ R) := by
  obtain ⟨pa, pc, rfl, -, -⟩ := hp.slice
  by_cases h1 : kd = 1
  · subst h1; exact do1_any h hM two n fill hn head pa _ pc
  by_cases h2 : kd = 2
  · subst h2; exact do2_any h hM two n fill hn hf head pa _ pc
  by_cases h8 : kd = 8
  · subst h8; exact do8_any h hM two n fill hn hf head pa _ pc hhd
  by_cases h3 : kd = 3
  · subst h3; exact do3_any h hM two n fill hn head pa _ pc
  by_cases h4 : kd = 4
  · subst h4; exact do4_any h hM two n fill hn head pa _ pc
  by_cases h5 : kd = 5
  · subst h5; exact do5_any h hM two n fill hn picks head pa _ pc hp hBw hpb
  by_cases h6 : kd = 6
  · subst h6; exact do6_any h hM two n fill hn head pa _ pc
  exact do0_any h hM two n fill hn kd head pa _ pc h1 h2 h3 h4 h5 h6 h8
end Go.Proofs.Ytgbiffpnfpdcoaa
