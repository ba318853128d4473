/- blockdev.Read, walked. -/
import Derived.Test.YtgbiffpnfpdcoaaBdD
import Derived.Deep.WholeRow
namespace Go.Proofs.Ytgbiffpnfpdcoaa
open Go.RowKit Go.Maps
set_option linter.unusedVariables false
set_option linter.unusedSimpArgs false

theorem at_loadBk {P : Program} {w : World} {ops : Array Oper} {rest : List Oper} {a : Act} {Q : Exit → Act → World → Prop} {dst : Option Tmp} {ty : TypeId} {x : Operand} {pos : String} {after : Array Edge} {gd : Option (Nat × Bool)}
    (h : wpList P ops Q ({ dst := dst, op := .load 102 x, type := ty, pos := pos, after := after, guard := gd } :: rest) a w) : wpList P ops Q ({ dst := dst, op := .load 102 x, type := ty, pos := pos, after := after, guard := gd } :: rest) a w := h
theorem at_storeBk {P : Program} {w : World} {ops : Array Oper} {rest : List Oper} {a : Act} {Q : Exit → Act → World → Prop} {dst : Option Tmp} {ty : TypeId} {x y : Operand} {pos : String} {after : Array Edge} {gd : Option (Nat × Bool)}
    (h : wpList P ops Q ({ dst := dst, op := .store 102 x y, type := ty, pos := pos, after := after, guard := gd } :: rest) a w) : wpList P ops Q ({ dst := dst, op := .store 102 x y, type := ty, pos := pos, after := after, guard := gd } :: rest) a w := h

theorem zeroBk (w : World) : (zeroValue 102).run Try.prog w = .ok zBk w := (zero_of_info (v := zBk) (n := 512) (by kernel_rfl)).1 w

/-- an element of a row of blocks -/
theorem OwnS.atBk {w : World} {base : Nat} {S : Nat → Prop} {v : Value} {xs : List Bk} {t : TypeId} (h : OwnS rBk t w base S v xs) (i : Nat) (hi : i < xs.length) :
    ∃ g cap, v = .slice (some ⟨g, 0, none⟩) xs.length cap ∧ g < w.heap.size ∧ w.rangeAt g (i * 512) (bvs xs[i]) ∧ xs[i].length = 512 := by
  obtain ⟨gs, rfl, h1, h2, h3⟩ := h
  rw [List.length_map] at hi
  rcases h1.2 with ⟨e, h0⟩ | ⟨g, cap, cur, e, -, hg, hnc, hcm, hcs, htake⟩
  · omega
  · have hlen : ∀ p ∈ gs, p.1.length = 512 := fun p hp => rBk.len (h3 p hp)
    have hm := List.getElem_mem hi
    obtain ⟨hq1, hq2⟩ := h3 gs[i] hm
    refine ⟨g, cap, by rw [e, List.length_map], (Array.getElem?_eq_some_iff.1 hg).1, fun j u hu => ?_, by rw [List.getElem_map]; exact hq2⟩
    rw [List.getElem_map, ← hq1] at hu
    have hj : j < 512 := by have := (List.getElem?_eq_some_iff.1 hu).1; rw [hlen _ hm] at this; exact this
    rw [cell_of_row _ _ _ _ _ _ hg]
    have h5 := cellsOf_get gs 512 hlen i hi j hj
    rw [hu, ← htake, List.getElem?_take] at h5
    have h6 : i * 512 + j < gs.length * rBk.size := by
      show _ < gs.length * 512
      have : (i + 1) * 512 ≤ gs.length * 512 := Nat.mul_le_mul_right _ hi
      omega
    rw [if_pos h6] at h5
    simpa using h5

def curF (d : Dv) (n : Int) : Bk := ((d.pend n).getLast?).getD (d.safe.getD n.toNat zb)

/-- what a read comes to -/
def RdEnd (w : World) (g : Nat) (ρ : Nat → Option DRol) (N : Nat) (X : Int × Dv) (b : Bk) (e : Ending) (w' : World) : Prop :=
  (X.1 ≠ 0 ∧ e = .returned (.tuple #[.slice none 0 0, .int .i64 X.1]) ∨ X.1 = 0 ∧ b.length = 512 ∧ ∃ k, e = .returned (.tuple #[.slice (some ⟨k, 0, none⟩) 512 512, .int .i64 0]) ∧ w.heap.size ≤ k ∧ w'.heap[k]? = some (.cells (bvs b).toArray 102 (0, 0))) ∧
  DvAt w' g ρ N X.2 ∧ Keep (fun k => k ≠ g) w w'

theorem Read_nil (w : World) (n : Int) : Calls Try.prog 30 #[.pointer none, .int .i64 n] w fun e w' => e = .returned (.tuple #[.slice none 0 0, .int .i64 1]) ∧ w = w' := by
  go_enter Try.func30, Try.ntmps30
  go_wp2_with fail
  refine (operate_nil _ _ _).mono ?_
  rintro e w1 ⟨rfl, rfl⟩
  go_wp2_with fail
  refine bodyPost_ret (v := .tuple #[.slice none 0 0, .int .i64 1]) (by simp [results, Try.results30, go_sem]) rfl ?_
  exact ⟨rfl, rfl⟩

set_option maxRecDepth 100000 in
set_option maxHeartbeats 2000000 in
theorem Read_any (w : World) (g : Nat) (ρ : Nat → Option DRol) (N : Nat) (d : Dv) (h : DvAt w g ρ N d) (hN : N ≤ 1000000000) (n : Int) (hn : -9223372036854775808 ≤ n ∧ n ≤ 9223372036854775807) :
    Calls Try.prog 30 #[.pointer (some ⟨g, 0, none⟩), .int .i64 n] w (RdEnd w g ρ (N + 1) (opF d n 0) (curF d n)) := by
  have HN := hid hn
  have H := hid h
  clear h hn
  go_enter Try.func30, Try.ntmps30
  go_wp2_with fail
  refine (operate_any w g ρ N d H.out hN n 0 HN.out (by omega)).mono ?_
  rintro e w1 ⟨rfl, hd1, hk1⟩
  obtain ⟨hsm1, hsm2⟩ := opF_same d n 0
  by_cases hx : (opF d n 0).1 = 0
  · obtain ⟨-, hr1, hr2⟩ := opF_ok hx
    obtain ⟨k, rfl⟩ : ∃ k : Nat, n = (k : Int) := ⟨n.toNat, by omega⟩
    have HX := hid hx
    rw [hx]
    have hcur : curF d k = curF (opF d k 0).2 k := by unfold curF; rw [hsm1, hsm2]
    generalize hX : opF d k 0 = X at HX hd1 hsm1 hsm2 hcur
    obtain ⟨x1, d1⟩ := X
    have HXX := hid hX
    have HCUR := hid hcur
    clear hX hcur
    dsimp only at HX hd1 hsm1 hsm2
    have HD1 := hid hd1
    obtain ⟨vs, gm, m, hp⟩ := hd1
    have hk : k < d1.safe.length := by rw [hsm1]; omega
    obtain ⟨gs, sc, e, hgs, hra, hbl⟩ := hp.safe.atBk k hk
    subst e
    have c0 := hp.c0
    have c1 := hp.c1
    have HP := hid hp
    have HK1 := hid hk1
    obtain ⟨pa, pc, hpv⟩ := (hp.pend k HN.out).slice
    have hlk : ∀ w', Ext w1 w' → (Instr.lookup 90 (.map (some gm)) (.int .i64 k) false).run Try.prog w' = .ok (.slice pa (d1.pend k).length pc) w' := fun w' hw => by
      have := (hp.ext hw).map.look Try.underlying90 (zeroBks _) (x := (k : Int)) HN.out
      rw [show (m k).getD (.slice none 0 0) = _ from hpv] at this
      exact this
    have hzb := zeroBk
    have HRA := hid hra
    have HBL := hid hbl
    have HPV := hid hpv
    obtain ⟨W1, hW1⟩ : ∃ W1, W1 = w1.alloc (.cells (bvs d1.safe[k]).toArray 102) := ⟨_, rfl⟩
    have hx1 : Ext w1 W1 := by rw [hW1]; exact (Ext.refl _).alloc _
    have hlk1 := hlk W1 hx1
    have c1' : W1.cell? ⟨g, 1, none⟩ = some (.map (some gm)) := Ext.cellS hx1 c1
    have hrow : W1.heap[w1.heap.size]? = some (.cells (bvs d1.safe[k]).toArray 102 (0, 0)) := by rw [hW1]; exact heap_alloc_new _ _
    have HROW := hid hrow
    have HX1 := hid hx1
    have HW1 := hid hW1
    have H1 := hid (show ∀ W, DvAt W g ρ (N + 1) d1 → Keep (fun k => k ≠ g) w1 W → DvAt W g ρ (N + 1) d1 ∧ Keep (fun k => k ≠ g) w W from fun W h h' => ⟨h, HK1.out.trans h'⟩)
    clear hra hbl hk1 hx hsm1 hsm2 hlk hpv hrow hx1 hW1
    by_cases hpe : d1.pend k = []
    · have HC := hid (show curF d1 k = d1.safe[k] by
        unfold curF
        rw [hpe, List.getLast?_nil, Option.getD_none, List.getD_eq_getElem?_getD, Int.toNat_natCast, List.getElem?_eq_getElem hk]; rfl)
      rw [hpe, List.length_nil] at hlk1
      have HPE := hid hpe
      clear hp hpe
      go_wp2_with (first | ((with_reducible refine at_loadBk ?_); go_must (refine wpList_load_mid rfl 102 _ rfl gs (k * 512) rfl (bvs d1.safe[k]) _ HRA.out Try.underlying102 rfl (by rw [infoArr]; simp [bvs, HBL.out]) ?_)) | ((with_reducible refine at_storeBk ?_); go_must (refine wpList_store_row rfl 102 _ _ rfl w1.heap.size (bvs d1.safe[k]).toArray rfl rfl 102 zBk.cells (heap_alloc_new _ _) (by rw [infoArr]; simp [bvs, HBL.out]) (by simp [bvs, HBL.out, zBk, Value.cells]) (all_oneCell_toArray (bvs_oneCell _)) ?_; rw [World.setRow_alloc_new, ← HW1.out])))
      refine bodyPost_ret (v := .tuple #[.slice (some ⟨w1.heap.size, 0, none⟩) 512 512, .int .i64 0]) (by simp [results, Try.results30, go_sem]) rfl ?_
      have hd2 := H1.out _ (HD1.out.ext HX1.out) (Ext.keep HX1.out _)
      refine ⟨.inr ⟨by rw [HXX.out]; exact HX.out, by rw [HCUR.out, HC.out]; exact HBL.out, w1.heap.size, rfl, HK1.out.size, by rw [HCUR.out, HC.out]; exact HROW.out⟩, by rw [HXX.out]; exact hd2⟩
    · obtain ⟨q, hq⟩ : ∃ q, (d1.pend k).length = q + 1 := ⟨(d1.pend k).length - 1, by have := List.length_pos_iff.2 hpe; omega⟩
      obtain ⟨gp, pc', e, hgp, hpr, hpl⟩ := ((hp.ext HX1.out).pend k HN.out).atBk q (by omega)
      rw [HPV.out] at e
      simp only [Value.slice.injEq] at e
      obtain ⟨rfl, -, rfl⟩ := e
      have HC := hid (show curF d1 k = (d1.pend k)[q] by
        unfold curF
        rw [List.getLast?_eq_getElem?, show (d1.pend k).length - 1 = q by omega, List.getElem?_eq_getElem (by omega)]; rfl)
      rw [hq] at hlk1
      have hq2 : q ≤ 1000000001 := by have := hp.long k; omega
      have HPR := hid hpr
      have HPL := hid hpl
      have HPE := hid hpe
      have HQ := hid hq
      generalize hpq : (d1.pend k)[q] = B at HPR HPL HC
      clear hp hpe hpr hpl hq hpq
      go_wp2_with (first | ((with_reducible refine at_loadBk ?_); go_must (first | (refine wpList_load_mid rfl 102 _ rfl gs (k * 512) rfl (bvs d1.safe[k]) _ HRA.out Try.underlying102 rfl (by rw [infoArr]; simp [bvs, HBL.out]) ?_) | (refine wpList_load_mid rfl 102 _ rfl gp (q * 512) rfl (bvs B) _ HPR.out Try.underlying102 rfl (by rw [infoArr]; simp [bvs, HPL.out]) ?_))) | ((with_reducible refine at_storeBk ?_); go_must (first | (refine wpList_store_row rfl 102 _ _ rfl w1.heap.size (bvs d1.safe[k]).toArray rfl rfl 102 zBk.cells (heap_alloc_new _ _) (by rw [infoArr]; simp [bvs, HBL.out]) (by simp [bvs, HBL.out, zBk, Value.cells]) (all_oneCell_toArray (bvs_oneCell _)) ?_; rw [World.setRow_alloc_new, ← HW1.out]) | (refine wpList_store_row rfl 102 _ _ rfl w1.heap.size (bvs B).toArray rfl rfl 102 (bvs d1.safe[k]).toArray HROW.out (by rw [infoArr]; simp [bvs, HPL.out]) (by simp [bvs, HBL.out, HPL.out]) (all_oneCell_toArray (bvs_oneCell _)) ?_; rw [HW1.out, World.setRow_alloc_new]))))
      refine bodyPost_ret (v := .tuple #[.slice (some ⟨w1.heap.size, 0, none⟩) 512 512, .int .i64 0]) (by simp [results, Try.results30, go_sem]) rfl ?_
      have hd2 := H1.out _ (HD1.out.ext (show Ext w1 (w1.alloc (.cells (bvs B).toArray 102)) by (· repeat (first | (with_reducible assumption) | exact Ext.refl _ | refine Ext.alloc ?_ _ | refine Ext.drew ?_ | refine Ext.drewN ?_ _ | (apply Ext.snart; (with_reducible assumption)))))) (Ext.keep (show Ext w1 (w1.alloc (.cells (bvs B).toArray 102)) by (· repeat (first | (with_reducible assumption) | exact Ext.refl _ | refine Ext.alloc ?_ _ | refine Ext.drew ?_ | refine Ext.drewN ?_ _ | (apply Ext.snart; (with_reducible assumption))))) _)
      refine ⟨.inr ⟨by rw [HXX.out]; exact HX.out, by rw [HCUR.out, HC.out]; exact HPL.out, w1.heap.size, rfl, HK1.out.size, by rw [HCUR.out, HC.out]; exact heap_alloc_new _ _⟩, by rw [HXX.out]; exact hd2⟩
  · generalize hX : opF d n 0 = X at hd1 hx
    obtain ⟨x1, d1⟩ := X
    have HXX := hid hX
    clear hX
    dsimp only at hx hd1
    have HD1 := hid hd1
    have HK1 := hid hk1
    have HX := hid hx
    clear hd1 hk1 hsm1 hsm2
    go_wp2_with fail
    refine bodyPost_ret (v := .tuple #[.slice none 0 0, .int .i64 x1]) (by simp [results, Try.results30, go_sem]) rfl ?_
    exact ⟨.inl ⟨by rw [HXX.out]; exact HX.out, by rw [HXX.out]⟩, by rw [HXX.out]; exact HD1.out, HK1.out⟩
end Go.Proofs.Ytgbiffpnfpdcoaa
