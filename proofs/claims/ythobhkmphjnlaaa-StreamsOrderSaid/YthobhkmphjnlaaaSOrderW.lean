/- StreamsOrder, walked. -/
import Derived.Test.YthobhkmphjnlaaaStrJ
import Derived.Test.YthobhkmphjnlaaaStrR
import Derived.Test.YthobhkmphjnlaaaStrQ
import Derived.Test.YthobhkmphjnlaaaStrW
import Derived.Test.YthobhkmphjnlaaaRegT
import Derived.Deep.DeepCutAuto
-- AUXRFL
namespace Go.Proofs.Ythobhkmphjnlaaa
open Go.RowKit
set_option linter.unusedVariables false
set_option linter.unusedSimpArgs false

theorem bytesLess_lt : ∀ (x y : List UInt8), Op.bytesLess x y = decide (x < y)
  | [], [] => by simp [Op.bytesLess]
  | _ :: _, [] => by simp [Op.bytesLess]
  | [], _ :: _ => by simp [Op.bytesLess]
  | a :: x, b :: y => by
    rw [Op.bytesLess, bytesLess_lt x y]
    simp only [List.cons_lt_cons_iff]
    by_cases h1 : a < b <;> by_cases h2 : a = b <;> by_cases h3 : x < y <;> simp [h1, h2, h3]
theorem less_no {a b : ByteArray} (h : a.data.toList < b.data.toList) : Op.bytesLess b.toList a.toList = false ∧ (b.toList == a.toList) = false := by
  rw [ByteArray.toList_eq, ByteArray.toList_eq]
  refine ⟨?_, ?_⟩
  · rw [bytesLess_lt]
    exact decide_eq_false (List.not_lt.2 (List.le_of_lt h))
  · rw [beq_eq_false_iff_ne]
    intro e
    rw [e] at h
    exact List.lt_irrefl _ h
theorem keep12 {w W : World} (h : Ext w W) {p0 p1 p2 p3 p4 p5 p6 p7 p8 p9 p10 p11 : Addr} {v0 v1 v2 v3 v4 v5 v6 v7 v8 v9 v10 v11 : Value} (c : w.cell? p0 = some v0 ∧ w.cell? p1 = some v1 ∧ w.cell? p2 = some v2 ∧ w.cell? p3 = some v3 ∧ w.cell? p4 = some v4 ∧ w.cell? p5 = some v5 ∧ w.cell? p6 = some v6 ∧ w.cell? p7 = some v7 ∧ w.cell? p8 = some v8 ∧ w.cell? p9 = some v9 ∧ w.cell? p10 = some v10 ∧ w.cell? p11 = some v11) : W.cell? p0 = some v0 ∧ W.cell? p1 = some v1 ∧ W.cell? p2 = some v2 ∧ W.cell? p3 = some v3 ∧ W.cell? p4 = some v4 ∧ W.cell? p5 = some v5 ∧ W.cell? p6 = some v6 ∧ W.cell? p7 = some v7 ∧ W.cell? p8 = some v8 ∧ W.cell? p9 = some v9 ∧ W.cell? p10 = some v10 ∧ W.cell? p11 = some v11 :=
  ⟨h.cellS c.1, h.cellS c.2.1, h.cellS c.2.2.1, h.cellS c.2.2.2.1, h.cellS c.2.2.2.2.1, h.cellS c.2.2.2.2.2.1, h.cellS c.2.2.2.2.2.2.1, h.cellS c.2.2.2.2.2.2.2.1, h.cellS c.2.2.2.2.2.2.2.2.1, h.cellS c.2.2.2.2.2.2.2.2.2.1, h.cellS c.2.2.2.2.2.2.2.2.2.2.1, h.cellS c.2.2.2.2.2.2.2.2.2.2.2⟩
theorem quiet_same {P : Program} {f : FuncId} {args : Array Value} {w : World} {n : Nat} {v : Value}
    (h : Calls P f args (w.drewN n) fun e w' => e = .returned v ∧ w.drewN n = w') : Calls P f args (w.drewN n) fun e w'' => e = .returned v ∧ ∃ m, w'' = w.drewN m :=
  h.mono fun _ _ ⟨he, hm⟩ => ⟨he, n, hm.symm⟩
theorem RdS.ofRow {w : World} {S : Nat → Prop} {g : Nat} {e : Ent} {fv : Value} (hrow : w.heap[g]? = some (.cells #[.int .i64 e.1, .string e.2.1, .int .i64 e.2.2.1, .string e.2.2.2.1, .int .i64 e.2.2.2.2.1, fv] 71 (0, 0)))
    (h : rEnt.rd w S [.int .i64 e.1, .string e.2.1, .int .i64 e.2.2.1, .string e.2.2.2.1, .int .i64 e.2.2.2.2.1, fv] e) : RdS rEnt w (fun _ => True) (.slice (some ⟨g, 0, none⟩) 1 1) [e] := by
  have hlt := (Array.getElem?_eq_some_iff.1 hrow).1
  refine ⟨_, [([.int .i64 e.1, .string e.2.1, .int .i64 e.2.2.1, .string e.2.2.2.1, .int .i64 e.2.2.2.2.1, fv], e)], rfl, rfl, ⟨_, _, rfl, Nat.le_refl _, by simp [maxLen], ?_, fun _ => ⟨g, 0, rfl, hlt, fun j hj => ?_⟩⟩, fun _ k _ => trivial, fun p hp => ?_⟩
  · rfl
  · rw [Nat.zero_add]
    exact (cell_of_row _ g j _ _ _ hrow).trans (by simp [cellsOf])
  · obtain rfl := List.mem_singleton.1 hp
    exact Rdr.mono h fun _ _ _ => trivial

set_option maxRecDepth 100000 in
set_option maxHeartbeats 8000000 in
theorem streamsOrder_walk (w : World) (sv : Value) (cs : List Cl) (hs : RdS rCl w (fun k => k < w.heap.size) sv cs) :
    Calls Try.prog 11 #[sv] w fun e w' => e = .returned (.bool true) ∧ Below w.heap.size w w' := by
  obtain ⟨sa, sc, rfl, hsc1, hsc2⟩ := hs.slice
  have HS := hid hs
  clear hs
  go_enter Try.func11, Try.ntmps11
  go_wp2_with fail
  refine (awake10_any w).mono ?_
  rintro e w1 ⟨rfl, hx1⟩
  have HX1 := hid hx1
  clear hx1
  go_wp2_with fail
  refine (New_idx w1).mono ?_
  rintro e w2 ⟨g, rfl, hi2, hx2⟩
  have HI2 := hid hi2
  have HX2 := hid hx2
  clear hi2 hx2
  go_wp2_with fail
  go_loopw [5] (fun u5 wr => ∃ i : Nat, ∃ x : Ix, u5 = .int .i64 i ∧ i ≤ 60 ∧ i ≤ cs.length ∧ Idx (fun k => w.heap.size ≤ k ∧ k < wr.heap.size) wr g x ∧ Reach x ∧ x.all.length ≤ 16 * i ∧ Ext w wr) (fun u5 _ => 60 - (intOf u5).toNat)
  case atStart => exact ⟨0, ix0, rfl, by omega, by omega, HI2.out.mono fun k hk hl => ⟨by have := HX1.out.size; omega, hl⟩, .zero, by simp [ix0], HX1.out.trans HX2.out⟩
  case round =>
    clear HI2 HX1 HX2
    obtain ⟨wo, rfl⟩ : ∃ wo : World, wo = wr := ⟨_, rfl⟩
    obtain ⟨i, x, rfl, hi40, hil, hidx, hre, hall, hx⟩ := hrel
    have HI := hid hidx
    have HRE := hid hre
    have HX := hid hx
    clear hidx hre
    go_upto_region 6 with fail
    go_cut [34] (fun s34 wx => s34 = .bool (decide (i < cs.length ∧ i < 60)) ∧ wx = wo)
    case first =>
      by_cases h1 : i < cs.length
      · by_cases h2 : i < 60
        · go_wp2_with fail
          go_meet
          exact ⟨congrArg Value.bool (by rw [decide_eq_decide]; omega), rfl⟩
        · go_wp2_with fail
          go_meet
          exact ⟨congrArg Value.bool (by rw [decide_eq_decide]; omega), rfl⟩
      · go_wp2_with fail
        go_meet
        exact ⟨congrArg Value.bool (decide_eq_false (p := i < cs.length ∧ i < 60) (by omega)).symm, rfl⟩
    case rest =>
    obtain ⟨rfl, rfl⟩ := hcut
    obtain ⟨wo, rfl⟩ : ∃ wo : World, wo = wc := ⟨_, rfl⟩
    by_cases hgo : i < cs.length ∧ i < 60
    · rw [decide_eq_true hgo]
      obtain ⟨hlt, hlt40⟩ := hgo
      obtain ⟨gl, ol, cap, lv, bev, e, hgl, -, d0, d1, d2, d3, d4, d5, -, -, -, -, -, hs1, hs2, -, -, hL, -⟩ := (HS.out.ext hx).atCl i hlt
      simp only [Value.slice.injEq] at e
      obtain ⟨rfl, -, rfl⟩ := e
      obtain ⟨la, lc, rfl, -, -⟩ := hL.slice
      generalize cs[i] = c at d0 d1 d2 d3 d4 d5 hs1 hs2 hL
      obtain ⟨ck, cst, cky, cn, cm, cl, cb⟩ := c
      dsimp only at d0 d1 d2 d3 d4 d5 hs1 hs2 hL
      have HL := hid hL
      have hlen : cl.length ≤ 9223372036854775807 := by obtain ⟨_, _, e, h1, h2⟩ := hL.slice; omega
      have hstr := HRE.out.str cst
      clear hL hx d0 d3 d4
      obtain ⟨z, hz⟩ : ∃ z, tryF x cst (-1) cky cl = z := ⟨_, rfl⟩
      have HZ := hid hz
      clear hz
      obtain ⟨⟨zf, zp, zc, zg⟩, ⟨bs, bk, bf, bes⟩, er⟩ := z
      go_upto_region 8 with fail
      go_cut [6, 7, 8] (fun s5 s6 s7 wx => TriedAt wo ((zf, zp, zc, zg), (bs, bk, bf, bes), er) s5 s6 s7 wx)
      case first =>
        go_wp2_with fail
        have hxd : Ext wo wo.drew := by (· repeat (first | (with_reducible assumption) | exact Ext.refl _ | refine Ext.alloc ?_ _ | refine Ext.drew ?_ | refine Ext.drewN ?_ _ | (apply Ext.snart; (with_reducible assumption))))
        refine wp_region_T (fun w' => w'.cell? ⟨gl, ol + i * 10 + 1, none⟩ = some (.string cst) ∧ w'.cell? ⟨gl, ol + i * 10 + 2, none⟩ = some (.string cky) ∧ w'.cell? ⟨gl, ol + i * 10 + 5, none⟩ = some (.slice la cl.length lc)) [16, 17, 18, 19, 20, 23, 24, 25] (by as_aux_lemma => kernel_rfl) (keep3 hxd d1 d2 d5) (fun hS => ?_)
        (refine wpAnyT_take (i := 0) (v := ?_) rfl (by as_aux_lemma => kernel_rfl) (by as_aux_lemma => kernel_rfl) (by as_aux_lemma => kernel_rfl) (by as_aux_lemma => kernel_rfl) (fun _ _ _ h => h) (Or.inl ⟨by rfl, ?_⟩) (by assumption) ?_; rotate_left; ((intro wS hSw; (try dsimp only at hSw); (try simp only [List.getElem_toArray, List.getElem_cons_zero, List.getElem_cons_succ]); go_simp); (try with_reducible rfl)); (try simp only [Act.put, List.getElem_toArray, List.getElem_cons_zero, List.getElem_cons_succ, List.setIfInBounds_toArray, List.set_cons_zero, List.set_cons_succ]))
        (refine wpAnyT_take (i := 1) (v := ?_) rfl (by as_aux_lemma => kernel_rfl) (by as_aux_lemma => kernel_rfl) (by as_aux_lemma => kernel_rfl) (by as_aux_lemma => kernel_rfl) (fun _ _ _ h => h) (Or.inl ⟨by rfl, ?_⟩) (by assumption) ?_; rotate_left; ((intro wS hSw; (try dsimp only at hSw); (try simp only [List.getElem_toArray, List.getElem_cons_zero, List.getElem_cons_succ]); go_simp); (try with_reducible rfl)); (try simp only [Act.put, List.getElem_toArray, List.getElem_cons_zero, List.getElem_cons_succ, List.setIfInBounds_toArray, List.set_cons_zero, List.set_cons_succ]))
        (refine wpAnyT_take (i := 2) (v := ?_) rfl (by as_aux_lemma => kernel_rfl) (by as_aux_lemma => kernel_rfl) (by as_aux_lemma => kernel_rfl) (by as_aux_lemma => kernel_rfl) (fun _ _ _ h => h) (Or.inl ⟨by rfl, ?_⟩) (by assumption) ?_; rotate_left; ((intro wS hSw; (try dsimp only at hSw); (try simp only [List.getElem_toArray, List.getElem_cons_zero, List.getElem_cons_succ]); go_simp); (try with_reducible rfl)); (try simp only [Act.put, List.getElem_toArray, List.getElem_cons_zero, List.getElem_cons_succ, List.setIfInBounds_toArray, List.set_cons_zero, List.set_cons_succ]))
        (refine wpAnyT_take (i := 3) (v := ?_) rfl (by as_aux_lemma => kernel_rfl) (by as_aux_lemma => kernel_rfl) (by as_aux_lemma => kernel_rfl) (by as_aux_lemma => kernel_rfl) (fun _ _ _ h => h) (Or.inl ⟨by rfl, ?_⟩) (by assumption) ?_; rotate_left; ((intro wS hSw; (try dsimp only at hSw); (try simp only [List.getElem_toArray, List.getElem_cons_zero, List.getElem_cons_succ]); go_simp); (try with_reducible rfl)); (try simp only [Act.put, List.getElem_toArray, List.getElem_cons_zero, List.getElem_cons_succ, List.setIfInBounds_toArray, List.set_cons_zero, List.set_cons_succ]))
        (refine wpAnyT_take (i := 4) (v := ?_) rfl (by as_aux_lemma => kernel_rfl) (by as_aux_lemma => kernel_rfl) (by as_aux_lemma => kernel_rfl) (by as_aux_lemma => kernel_rfl) (fun _ _ _ h => h) (Or.inl ⟨by rfl, ?_⟩) (by assumption) ?_; rotate_left; ((intro wS hSw; (try dsimp only at hSw); (try simp only [List.getElem_toArray, List.getElem_cons_zero, List.getElem_cons_succ]); go_simp); (try with_reducible rfl)); (try simp only [Act.put, List.getElem_toArray, List.getElem_cons_zero, List.getElem_cons_succ, List.setIfInBounds_toArray, List.set_cons_zero, List.set_cons_succ]))
        (refine wpAnyT_take (i := 5) (v := ?_) rfl (by as_aux_lemma => kernel_rfl) (by as_aux_lemma => kernel_rfl) (by as_aux_lemma => kernel_rfl) (by as_aux_lemma => kernel_rfl) (fun _ _ _ h => h) (Or.inl ⟨by rfl, ?_⟩) (by assumption) ?_; rotate_left; ((intro wS hSw; (try dsimp only at hSw); (try simp only [List.getElem_toArray, List.getElem_cons_zero, List.getElem_cons_succ]); go_simp); (try with_reducible rfl)); (try simp only [Act.put, List.getElem_toArray, List.getElem_cons_zero, List.getElem_cons_succ, List.setIfInBounds_toArray, List.set_cons_zero, List.set_cons_succ]))
        (refine wpAnyT_take (i := 6) (v := ?_) rfl (by as_aux_lemma => kernel_rfl) (by as_aux_lemma => kernel_rfl) (by as_aux_lemma => kernel_rfl) (by as_aux_lemma => kernel_rfl) (fun _ _ _ h => h) (Or.inl ⟨by rfl, ?_⟩) (by assumption) ?_; rotate_left; ((intro wS hSw; (try dsimp only at hSw); (try simp only [List.getElem_toArray, List.getElem_cons_zero, List.getElem_cons_succ]); go_simp); (try with_reducible rfl)); (try simp only [Act.put, List.getElem_toArray, List.getElem_cons_zero, List.getElem_cons_succ, List.setIfInBounds_toArray, List.set_cons_zero, List.set_cons_succ]))
        (refine wpAnyT_take (i := 7) (v := ?_) rfl (by as_aux_lemma => kernel_rfl) (by as_aux_lemma => kernel_rfl) (by as_aux_lemma => kernel_rfl) (by as_aux_lemma => kernel_rfl) (fun _ _ _ h => h) (Or.inl ⟨by rfl, ?_⟩) (by assumption) ?_; rotate_left; ((intro wS hSw; (try dsimp only at hSw); (try simp only [List.getElem_toArray, List.getElem_cons_zero, List.getElem_cons_succ]); go_simp); (try with_reducible rfl)); (try simp only [Act.put, List.getElem_toArray, List.getElem_cons_zero, List.getElem_cons_succ, List.setIfInBounds_toArray, List.set_cons_zero, List.set_cons_succ]))
        (refine wpAnyT_take (i := 8) (v := ?_) rfl (by as_aux_lemma => kernel_rfl) (by as_aux_lemma => kernel_rfl) (by as_aux_lemma => kernel_rfl) (by as_aux_lemma => kernel_rfl) (fun _ _ _ h => h) (Or.inl ⟨by rfl, ?_⟩) (by assumption) ?_; rotate_left; ((intro wS hSw; (try dsimp only at hSw); (try simp only [List.getElem_toArray, List.getElem_cons_zero, List.getElem_cons_succ]); go_simp); (try with_reducible rfl)); (try simp only [Act.put, List.getElem_toArray, List.getElem_cons_zero, List.getElem_cons_succ, List.setIfInBounds_toArray, List.set_cons_zero, List.set_cons_succ]))
        (refine wpAnyT_take (i := 9) (v := ?_) rfl (by as_aux_lemma => kernel_rfl) (by as_aux_lemma => kernel_rfl) (by as_aux_lemma => kernel_rfl) (by as_aux_lemma => kernel_rfl) (fun _ _ _ h => h) (Or.inl ⟨by rfl, ?_⟩) (by assumption) ?_; rotate_left; ((intro wS hSw; (try dsimp only at hSw); (try simp only [List.getElem_toArray, List.getElem_cons_zero, List.getElem_cons_succ]); go_simp); (try with_reducible rfl)); (try simp only [Act.put, List.getElem_toArray, List.getElem_cons_zero, List.getElem_cons_succ, List.setIfInBounds_toArray, List.set_cons_zero, List.set_cons_succ]))
        (refine wpAnyT_take (i := 10) (v := ?_) rfl (by as_aux_lemma => kernel_rfl) (by as_aux_lemma => kernel_rfl) (by as_aux_lemma => kernel_rfl) (by as_aux_lemma => kernel_rfl) (fun _ _ _ h => h) (Or.inl ⟨by rfl, ?_⟩) (by assumption) ?_; rotate_left; ((intro wS hSw; (try dsimp only at hSw); (try simp only [List.getElem_toArray, List.getElem_cons_zero, List.getElem_cons_succ]); go_simp); (try with_reducible rfl)); (try simp only [Act.put, List.getElem_toArray, List.getElem_cons_zero, List.getElem_cons_succ, List.setIfInBounds_toArray, List.set_cons_zero, List.set_cons_succ]))
        (refine wpAnyT_take (i := 11) (v := ?_) rfl (by as_aux_lemma => kernel_rfl) (by as_aux_lemma => kernel_rfl) (by as_aux_lemma => kernel_rfl) (by as_aux_lemma => kernel_rfl) (fun _ _ _ h => h) (Or.inl ⟨by rfl, ?_⟩) (by assumption) ?_; rotate_left; ((intro wS hSw; (try dsimp only at hSw); (try simp only [List.getElem_toArray, List.getElem_cons_zero, List.getElem_cons_succ]); go_simp); (try with_reducible rfl)); (try simp only [Act.put, List.getElem_toArray, List.getElem_cons_zero, List.getElem_cons_succ, List.setIfInBounds_toArray, List.set_cons_zero, List.set_cons_succ]))
        (refine wpAnyT_take (i := 12) (v := ?_) rfl (by as_aux_lemma => kernel_rfl) (by as_aux_lemma => kernel_rfl) (by as_aux_lemma => kernel_rfl) (by as_aux_lemma => kernel_rfl) (fun _ _ _ h => h) (Or.inl ⟨by rfl, ?_⟩) (by assumption) ?_; rotate_left; ((intro wS hSw; (try dsimp only at hSw); (try simp only [List.getElem_toArray, List.getElem_cons_zero, List.getElem_cons_succ]); go_simp); (try with_reducible rfl)); (try simp only [Act.put, List.getElem_toArray, List.getElem_cons_zero, List.getElem_cons_succ, List.setIfInBounds_toArray, List.set_cons_zero, List.set_cons_succ]))
        (refine wpAnyT_take (i := 13) (v := ?_) rfl (by as_aux_lemma => kernel_rfl) (by as_aux_lemma => kernel_rfl) (by as_aux_lemma => kernel_rfl) (by as_aux_lemma => kernel_rfl) (fun _ _ _ h => h) (Or.inl ⟨by rfl, ?_⟩) (by assumption) ?_; rotate_left; ((intro wS hSw; (try dsimp only at hSw); (try simp only [List.getElem_toArray, List.getElem_cons_zero, List.getElem_cons_succ]); go_simp); (try with_reducible rfl)); (try simp only [Act.put, List.getElem_toArray, List.getElem_cons_zero, List.getElem_cons_succ, List.setIfInBounds_toArray, List.set_cons_zero, List.set_cons_succ]))
        (refine wpAnyT_take (i := 14) (v := ?_) rfl (by as_aux_lemma => kernel_rfl) (by as_aux_lemma => kernel_rfl) (by as_aux_lemma => kernel_rfl) (by as_aux_lemma => kernel_rfl) (fun _ _ _ h => h) (Or.inl ⟨by rfl, ?_⟩) (by assumption) ?_; rotate_left; ((intro wS hSw; (try dsimp only at hSw); (try simp only [List.getElem_toArray, List.getElem_cons_zero, List.getElem_cons_succ]); go_simp); (try with_reducible rfl)); (try simp only [Act.put, List.getElem_toArray, List.getElem_cons_zero, List.getElem_cons_succ, List.setIfInBounds_toArray, List.set_cons_zero, List.set_cons_succ]))
        (refine wpAnyT_take (i := 15) (v := ?_) rfl (by as_aux_lemma => kernel_rfl) (by as_aux_lemma => kernel_rfl) (by as_aux_lemma => kernel_rfl) (by as_aux_lemma => kernel_rfl) (fun _ _ _ h => h) (Or.inl ⟨by rfl, ?_⟩) (by assumption) ?_; rotate_left; ((intro wS hSw; (try dsimp only at hSw); (try simp only [List.getElem_toArray, List.getElem_cons_zero, List.getElem_cons_succ]); go_simp); (try with_reducible rfl)); (try simp only [Act.put, List.getElem_toArray, List.getElem_cons_zero, List.getElem_cons_succ, List.setIfInBounds_toArray, List.set_cons_zero, List.set_cons_succ]))
        refine wpAnyT_all (rs := [16, 21, 22]) (by as_aux_lemma => kernel_rfl) (by decide) (AllT.consF rfl rfl (fun K hK => ?_) (AllT.consS rfl (fun K hK => ?_) (AllT.consS rfl (fun K hK => ?_) AllT.nil)))
        · go_simp
          go_at_call 17
          refine (Try_idx _ _ g x (HI.out.ext (by (· repeat (first | (with_reducible assumption) | exact Ext.refl _ | refine Ext.alloc ?_ _ | refine Ext.drew ?_ | refine Ext.drewN ?_ _ | (apply Ext.snart; (with_reducible assumption)))))) (by omega) _ hs1 (-1) (by decide) _ hs2 _ _ _ (HL.out.ext (by (· repeat (first | (with_reducible assumption) | exact Ext.refl _ | refine Ext.alloc ?_ _ | refine Ext.drew ?_ | refine Ext.drewN ?_ _ | (apply Ext.snart; (with_reducible assumption)))))) hlen (by omega)).mono ?_
          rintro e w' ⟨ev', rfl, hev', hx'⟩
          rw [HZ.out] at hev' ⊢
          dsimp only at hev' ⊢
          obtain ⟨ea', ec', rfl, -, -⟩ := hev'.slice
          have hx0' : Ext wo w' := (show Ext wo _ by (· repeat (first | (with_reducible assumption) | exact Ext.refl _ | refine Ext.alloc ?_ _ | refine Ext.drew ?_ | refine Ext.drewN ?_ _ | (apply Ext.snart; (with_reducible assumption))))).trans hx'
          have hsx' : wo.heap.size + 0 ≤ w'.heap.size := by have h : (wo).heap.size ≤ w'.heap.size := hx'.size; (try simp only [heap_alloc_sz] at h); omega
          have hev' := hev'.upto.mono (S' := fun k => wo.heap.size + 0 ≤ k ∧ k < w'.heap.size) (fun k hk _ => ⟨by have h : (wo).heap.size ≤ k := hk.1; (try simp only [heap_alloc_sz] at h); omega, hk.2⟩)
          (refine hK.out _ _ ?_; clear hK K)
          (refine wpAnyT_any (i := 17) (v := ?_) rfl (by as_aux_lemma => kernel_rfl) (by as_aux_lemma => kernel_rfl) (by as_aux_lemma => kernel_rfl) (by as_aux_lemma => kernel_rfl) (fun _ _ _ h => h) (Or.inl ⟨by rfl, ?_⟩) ?_; rotate_left; ((intro wS hSw; (try simp only [List.getElem_toArray, List.getElem_cons_zero, List.getElem_cons_succ]); go_simp); (try with_reducible rfl)); (try simp only [Act.put, List.getElem_toArray, List.getElem_cons_zero, List.getElem_cons_succ, List.setIfInBounds_toArray, List.set_cons_zero, List.set_cons_succ]))
          (refine wpAnyT_any (i := 18) (v := ?_) rfl (by as_aux_lemma => kernel_rfl) (by as_aux_lemma => kernel_rfl) (by as_aux_lemma => kernel_rfl) (by as_aux_lemma => kernel_rfl) (fun _ _ _ h => h) (Or.inl ⟨by rfl, ?_⟩) ?_; rotate_left; ((intro wS hSw; (try simp only [List.getElem_toArray, List.getElem_cons_zero, List.getElem_cons_succ]); go_simp); (try with_reducible rfl)); (try simp only [Act.put, List.getElem_toArray, List.getElem_cons_zero, List.getElem_cons_succ, List.setIfInBounds_toArray, List.set_cons_zero, List.set_cons_succ]))
          (refine wpAnyT_any (i := 19) (v := ?_) rfl (by as_aux_lemma => kernel_rfl) (by as_aux_lemma => kernel_rfl) (by as_aux_lemma => kernel_rfl) (by as_aux_lemma => kernel_rfl) (fun _ _ _ h => h) (Or.inl ⟨by rfl, ?_⟩) ?_; rotate_left; ((intro wS hSw; (try simp only [List.getElem_toArray, List.getElem_cons_zero, List.getElem_cons_succ]); go_simp); (try with_reducible rfl)); (try simp only [Act.put, List.getElem_toArray, List.getElem_cons_zero, List.getElem_cons_succ, List.setIfInBounds_toArray, List.set_cons_zero, List.set_cons_succ]))
          (refine wpAnyT_any (i := 20) (v := ?_) rfl (by as_aux_lemma => kernel_rfl) (by as_aux_lemma => kernel_rfl) (by as_aux_lemma => kernel_rfl) (by as_aux_lemma => kernel_rfl) (fun _ _ _ h => h) (Or.inl ⟨by rfl, ?_⟩) ?_; rotate_left; ((intro wS hSw; (try simp only [List.getElem_toArray, List.getElem_cons_zero, List.getElem_cons_succ]); go_simp); (try with_reducible rfl)); (try simp only [Act.put, List.getElem_toArray, List.getElem_cons_zero, List.getElem_cons_succ, List.setIfInBounds_toArray, List.set_cons_zero, List.set_cons_succ]))
          refine wpAnyT_all (rs := [21, 22]) (by as_aux_lemma => kernel_rfl) (by decide) (AllT.consS rfl (fun K hK => ?_) (AllT.consS rfl (fun K hK => ?_) AllT.nil))
          · go_simp
            (refine hK.out _ _ (keep3 (show Ext wo _ by (· repeat (first | (with_reducible assumption) | exact Ext.refl _ | refine Ext.alloc ?_ _ | refine Ext.drew ?_ | refine Ext.drewN ?_ _ | (apply Ext.snart; (with_reducible assumption))))) d1 d2 d5) (fun hS => ?_); clear hK K)
            refine wpAnyT_all (rs := [22]) (by as_aux_lemma => kernel_rfl) (by decide) (AllT.consS rfl (fun K hK => ?_) AllT.nil)
            go_simp
            (refine hK.out _ _ (keep3 (show Ext wo _ by (· repeat (first | (with_reducible assumption) | exact Ext.refl _ | refine Ext.alloc ?_ _ | refine Ext.drew ?_ | refine Ext.drewN ?_ _ | (apply Ext.snart; (with_reducible assumption))))) d1 d2 d5) (fun hS => ?_); clear hK K)
            have hA : ((w'.alloc (.cells #[.int .i64 0, .int .i64 0, .int .i64 0, .bool false] 29)).alloc (.cells #[.string ⟨#[]⟩, .string ⟨#[]⟩, .int .i64 0, .slice none 0 0] 31)).heap[w'.heap.size]? = some (.cells #[.int .i64 0, .int .i64 0, .int .i64 0, .bool false] 29 (0, 0)) := alloc_two_a _ _ _ _
            have hB : ((w'.alloc (.cells #[.int .i64 0, .int .i64 0, .int .i64 0, .bool false] 29)).alloc (.cells #[.string ⟨#[]⟩, .string ⟨#[]⟩, .int .i64 0, .slice none 0 0] 31)).heap[(w'.heap.size + 1)]? = some (.cells #[.string ⟨#[]⟩, .string ⟨#[]⟩, .int .i64 0, .slice none 0 0] 31 (0, 0)) := alloc_two_b _ _ _ _
            have hxW : Ext wo ((w'.alloc (.cells #[.int .i64 0, .int .i64 0, .int .i64 0, .bool false] 29)).alloc (.cells #[.string ⟨#[]⟩, .string ⟨#[]⟩, .int .i64 0, .slice none 0 0] 31)) := by (· repeat (first | (with_reducible assumption) | exact Ext.refl _ | refine Ext.alloc ?_ _ | refine Ext.drew ?_ | refine Ext.drewN ?_ _ | (apply Ext.snart; (with_reducible assumption))))
            have hevW : RdS rE ((w'.alloc (.cells #[.int .i64 0, .int .i64 0, .int .i64 0, .bool false] 29)).alloc (.cells #[.string ⟨#[]⟩, .string ⟨#[]⟩, .int .i64 0, .slice none 0 0] 31)) (fun k => wo.heap.size ≤ k ∧ k ≠ w'.heap.size ∧ k ≠ (w'.heap.size + 1)) (.slice ea' bes.length ec') bes := (hev'.ext (show Ext w' _ by (· repeat (first | (with_reducible assumption) | exact Ext.refl _ | refine Ext.alloc ?_ _ | refine Ext.drew ?_ | refine Ext.drewN ?_ _ | (apply Ext.snart; (with_reducible assumption)))))).mono (fun k hk _ => by have h1 := hk.1; have h2 := hk.2; refine ⟨?_, ?_, ?_⟩ <;> omega)
            have hAB : ¬ w'.heap.size = (w'.heap.size + 1) := by omega
            have hgA : wo.heap.size ≤ w'.heap.size := by omega
            have hgB : wo.heap.size ≤ (w'.heap.size + 1) := by omega
            obtain ⟨W0, hW0⟩ : ∃ W0, W0 = (w'.alloc (.cells #[.int .i64 0, .int .i64 0, .int .i64 0, .bool false] 29)).alloc (.cells #[.string ⟨#[]⟩, .string ⟨#[]⟩, .int .i64 0, .slice none 0 0] 31) := ⟨_, rfl⟩
            rw [← hW0] at hA hB hxW hevW ⊢
            clear hW0
            have HA := hid hA
            have HB := hid hB
            have HEVW := hid hevW
            have HXW := hid hxW
            have yA0 : W0.cell? ⟨w'.heap.size, 0, none⟩ = some (.int .i64 0) := (cell_of_row _ _ 0 _ _ _ HA.out).trans rfl
            have xA0 := frozen_blk HA.out 0
            have yA1 : W0.cell? ⟨w'.heap.size, 1, none⟩ = some (.int .i64 0) := (cell_of_row _ _ 1 _ _ _ HA.out).trans rfl
            have xA1 := frozen_blk HA.out 1
            have yA2 : W0.cell? ⟨w'.heap.size, 2, none⟩ = some (.int .i64 0) := (cell_of_row _ _ 2 _ _ _ HA.out).trans rfl
            have xA2 := frozen_blk HA.out 2
            have yA3 : W0.cell? ⟨w'.heap.size, 3, none⟩ = some (.bool false) := (cell_of_row _ _ 3 _ _ _ HA.out).trans rfl
            have xA3 := frozen_blk HA.out 3
            have yB0 : W0.cell? ⟨(w'.heap.size + 1), 0, none⟩ = some (.string ⟨#[]⟩) := (cell_of_row _ _ 0 _ _ _ HB.out).trans rfl
            have xB0 := frozen_blk HB.out 0
            have yB1 : W0.cell? ⟨(w'.heap.size + 1), 1, none⟩ = some (.string ⟨#[]⟩) := (cell_of_row _ _ 1 _ _ _ HB.out).trans rfl
            have xB1 := frozen_blk HB.out 1
            have yB2 : W0.cell? ⟨(w'.heap.size + 1), 2, none⟩ = some (.int .i64 0) := (cell_of_row _ _ 2 _ _ _ HB.out).trans rfl
            have xB2 := frozen_blk HB.out 2
            have yB3 : W0.cell? ⟨(w'.heap.size + 1), 3, none⟩ = some (.slice none 0 0) := (cell_of_row _ _ 3 _ _ _ HB.out).trans rfl
            have xB3 := frozen_blk HB.out 3
            have hBA : ¬ (w'.heap.size + 1) = w'.heap.size := by omega
            clear hA hB hxW hevW hev' hx' hsx' hx0' d1 d2 d5
            refine wpAnyT_all (rs := [23]) (by as_aux_lemma => kernel_rfl) (by decide) (AllT.consF rfl rfl (fun K hK => ?_) AllT.nil)
            go_simp
            (refine hK.out _ _ ?_; clear hK K)
            refine wpAnyT_all (rs := [24]) (by as_aux_lemma => kernel_rfl) (by decide) (AllT.consF rfl rfl (fun K hK => ?_) AllT.nil)
            go_simp
            (refine hK.out _ _ ?_; clear hK K)
            refine wpAnyT_all (rs := [25]) (by as_aux_lemma => kernel_rfl) (by decide) (AllT.consF rfl rfl (fun K hK => ?_) AllT.nil)
            go_simp
            (refine hK.out _ _ ?_; clear hK K)
            refine wpAnyT_done (by as_aux_lemma => kernel_rfl) (NoPanic.normal ?_) _
            go_wp2_with fail
            go_meet
            obtain ⟨qA, qB⟩ := eight_cells (u0 := .int .i64 zf) (u1 := .int .i64 zp) (u2 := .int .i64 zc) (u3 := .bool zg) (v0 := .string bs) (v1 := .string bk) (v2 := .int .i64 bf) (v3 := .slice ea' bes.length ec') HA.out HB.out hAB
            exact ⟨_, _, _, rfl, rfl, rfl, hgB, hgA, ⟨(cell_of_row _ _ 0 _ _ _ qA).trans rfl, (cell_of_row _ _ 1 _ _ _ qA).trans rfl, (cell_of_row _ _ 2 _ _ _ qA).trans rfl, (cell_of_row _ _ 3 _ _ _ qA).trans rfl⟩, ⟨(cell_of_row _ _ 0 _ _ _ qB).trans rfl, (cell_of_row _ _ 1 _ _ _ qB).trans rfl, (cell_of_row _ _ 2 _ _ _ qB).trans rfl, (cell_of_row _ _ 3 _ _ _ qB).trans rfl⟩, (HEVW.out.kept (eight_keep (fun h => h.2.1 rfl) (fun h => h.2.2 rfl))).mono (fun k hk _ => hk.1), eight_ext HXW.out hgA hgB⟩
          · go_simp
            (refine hK.out _ _ (keep3 (show Ext wo _ by (· repeat (first | (with_reducible assumption) | exact Ext.refl _ | refine Ext.alloc ?_ _ | refine Ext.drew ?_ | refine Ext.drewN ?_ _ | (apply Ext.snart; (with_reducible assumption))))) d1 d2 d5) (fun hS => ?_); clear hK K)
            refine wpAnyT_all (rs := [21]) (by as_aux_lemma => kernel_rfl) (by decide) (AllT.consS rfl (fun K hK => ?_) AllT.nil)
            go_simp
            (refine hK.out _ _ (keep3 (show Ext wo _ by (· repeat (first | (with_reducible assumption) | exact Ext.refl _ | refine Ext.alloc ?_ _ | refine Ext.drew ?_ | refine Ext.drewN ?_ _ | (apply Ext.snart; (with_reducible assumption))))) d1 d2 d5) (fun hS => ?_); clear hK K)
            have hA : ((w'.alloc (.cells #[.string ⟨#[]⟩, .string ⟨#[]⟩, .int .i64 0, .slice none 0 0] 31)).alloc (.cells #[.int .i64 0, .int .i64 0, .int .i64 0, .bool false] 29)).heap[(w'.heap.size + 1)]? = some (.cells #[.int .i64 0, .int .i64 0, .int .i64 0, .bool false] 29 (0, 0)) := alloc_two_b _ _ _ _
            have hB : ((w'.alloc (.cells #[.string ⟨#[]⟩, .string ⟨#[]⟩, .int .i64 0, .slice none 0 0] 31)).alloc (.cells #[.int .i64 0, .int .i64 0, .int .i64 0, .bool false] 29)).heap[w'.heap.size]? = some (.cells #[.string ⟨#[]⟩, .string ⟨#[]⟩, .int .i64 0, .slice none 0 0] 31 (0, 0)) := alloc_two_a _ _ _ _
            have hxW : Ext wo ((w'.alloc (.cells #[.string ⟨#[]⟩, .string ⟨#[]⟩, .int .i64 0, .slice none 0 0] 31)).alloc (.cells #[.int .i64 0, .int .i64 0, .int .i64 0, .bool false] 29)) := by (· repeat (first | (with_reducible assumption) | exact Ext.refl _ | refine Ext.alloc ?_ _ | refine Ext.drew ?_ | refine Ext.drewN ?_ _ | (apply Ext.snart; (with_reducible assumption))))
            have hevW : RdS rE ((w'.alloc (.cells #[.string ⟨#[]⟩, .string ⟨#[]⟩, .int .i64 0, .slice none 0 0] 31)).alloc (.cells #[.int .i64 0, .int .i64 0, .int .i64 0, .bool false] 29)) (fun k => wo.heap.size ≤ k ∧ k ≠ (w'.heap.size + 1) ∧ k ≠ w'.heap.size) (.slice ea' bes.length ec') bes := (hev'.ext (show Ext w' _ by (· repeat (first | (with_reducible assumption) | exact Ext.refl _ | refine Ext.alloc ?_ _ | refine Ext.drew ?_ | refine Ext.drewN ?_ _ | (apply Ext.snart; (with_reducible assumption)))))).mono (fun k hk _ => by have h1 := hk.1; have h2 := hk.2; refine ⟨?_, ?_, ?_⟩ <;> omega)
            have hAB : ¬ (w'.heap.size + 1) = w'.heap.size := by omega
            have hgA : wo.heap.size ≤ (w'.heap.size + 1) := by omega
            have hgB : wo.heap.size ≤ w'.heap.size := by omega
            obtain ⟨W0, hW0⟩ : ∃ W0, W0 = (w'.alloc (.cells #[.string ⟨#[]⟩, .string ⟨#[]⟩, .int .i64 0, .slice none 0 0] 31)).alloc (.cells #[.int .i64 0, .int .i64 0, .int .i64 0, .bool false] 29) := ⟨_, rfl⟩
            rw [← hW0] at hA hB hxW hevW ⊢
            clear hW0
            have HA := hid hA
            have HB := hid hB
            have HEVW := hid hevW
            have HXW := hid hxW
            have yA0 : W0.cell? ⟨(w'.heap.size + 1), 0, none⟩ = some (.int .i64 0) := (cell_of_row _ _ 0 _ _ _ HA.out).trans rfl
            have xA0 := frozen_blk HA.out 0
            have yA1 : W0.cell? ⟨(w'.heap.size + 1), 1, none⟩ = some (.int .i64 0) := (cell_of_row _ _ 1 _ _ _ HA.out).trans rfl
            have xA1 := frozen_blk HA.out 1
            have yA2 : W0.cell? ⟨(w'.heap.size + 1), 2, none⟩ = some (.int .i64 0) := (cell_of_row _ _ 2 _ _ _ HA.out).trans rfl
            have xA2 := frozen_blk HA.out 2
            have yA3 : W0.cell? ⟨(w'.heap.size + 1), 3, none⟩ = some (.bool false) := (cell_of_row _ _ 3 _ _ _ HA.out).trans rfl
            have xA3 := frozen_blk HA.out 3
            have yB0 : W0.cell? ⟨w'.heap.size, 0, none⟩ = some (.string ⟨#[]⟩) := (cell_of_row _ _ 0 _ _ _ HB.out).trans rfl
            have xB0 := frozen_blk HB.out 0
            have yB1 : W0.cell? ⟨w'.heap.size, 1, none⟩ = some (.string ⟨#[]⟩) := (cell_of_row _ _ 1 _ _ _ HB.out).trans rfl
            have xB1 := frozen_blk HB.out 1
            have yB2 : W0.cell? ⟨w'.heap.size, 2, none⟩ = some (.int .i64 0) := (cell_of_row _ _ 2 _ _ _ HB.out).trans rfl
            have xB2 := frozen_blk HB.out 2
            have yB3 : W0.cell? ⟨w'.heap.size, 3, none⟩ = some (.slice none 0 0) := (cell_of_row _ _ 3 _ _ _ HB.out).trans rfl
            have xB3 := frozen_blk HB.out 3
            have hBA : ¬ w'.heap.size = (w'.heap.size + 1) := by omega
            clear hA hB hxW hevW hev' hx' hsx' hx0' d1 d2 d5
            refine wpAnyT_all (rs := [23]) (by as_aux_lemma => kernel_rfl) (by decide) (AllT.consF rfl rfl (fun K hK => ?_) AllT.nil)
            go_simp
            (refine hK.out _ _ ?_; clear hK K)
            refine wpAnyT_all (rs := [24]) (by as_aux_lemma => kernel_rfl) (by decide) (AllT.consF rfl rfl (fun K hK => ?_) AllT.nil)
            go_simp
            (refine hK.out _ _ ?_; clear hK K)
            refine wpAnyT_all (rs := [25]) (by as_aux_lemma => kernel_rfl) (by decide) (AllT.consF rfl rfl (fun K hK => ?_) AllT.nil)
            go_simp
            (refine hK.out _ _ ?_; clear hK K)
            refine wpAnyT_done (by as_aux_lemma => kernel_rfl) (NoPanic.normal ?_) _
            go_wp2_with fail
            go_meet
            obtain ⟨qA, qB⟩ := eight_cells (u0 := .int .i64 zf) (u1 := .int .i64 zp) (u2 := .int .i64 zc) (u3 := .bool zg) (v0 := .string bs) (v1 := .string bk) (v2 := .int .i64 bf) (v3 := .slice ea' bes.length ec') HA.out HB.out hAB
            exact ⟨_, _, _, rfl, rfl, rfl, hgB, hgA, ⟨(cell_of_row _ _ 0 _ _ _ qA).trans rfl, (cell_of_row _ _ 1 _ _ _ qA).trans rfl, (cell_of_row _ _ 2 _ _ _ qA).trans rfl, (cell_of_row _ _ 3 _ _ _ qA).trans rfl⟩, ⟨(cell_of_row _ _ 0 _ _ _ qB).trans rfl, (cell_of_row _ _ 1 _ _ _ qB).trans rfl, (cell_of_row _ _ 2 _ _ _ qB).trans rfl, (cell_of_row _ _ 3 _ _ _ qB).trans rfl⟩, (HEVW.out.kept (eight_keep (fun h => h.2.1 rfl) (fun h => h.2.2 rfl))).mono (fun k hk _ => hk.1), eight_ext HXW.out hgA hgB⟩
        · go_simp
          (refine hK.out _ _ (keep3 (show Ext wo _ by (· repeat (first | (with_reducible assumption) | exact Ext.refl _ | refine Ext.alloc ?_ _ | refine Ext.drew ?_ | refine Ext.drewN ?_ _ | (apply Ext.snart; (with_reducible assumption))))) d1 d2 d5) (fun hS => ?_); clear hK K)
          refine wpAnyT_all (rs := [16, 22]) (by as_aux_lemma => kernel_rfl) (by decide) (AllT.consF rfl rfl (fun K hK => ?_) (AllT.consS rfl (fun K hK => ?_) AllT.nil))
          · go_simp
            go_at_call 17
            refine (Try_idx _ _ g x (HI.out.ext (by (· repeat (first | (with_reducible assumption) | exact Ext.refl _ | refine Ext.alloc ?_ _ | refine Ext.drew ?_ | refine Ext.drewN ?_ _ | (apply Ext.snart; (with_reducible assumption)))))) (by omega) _ hs1 (-1) (by decide) _ hs2 _ _ _ (HL.out.ext (by (· repeat (first | (with_reducible assumption) | exact Ext.refl _ | refine Ext.alloc ?_ _ | refine Ext.drew ?_ | refine Ext.drewN ?_ _ | (apply Ext.snart; (with_reducible assumption)))))) hlen (by omega)).mono ?_
            rintro e w' ⟨ev', rfl, hev', hx'⟩
            rw [HZ.out] at hev' ⊢
            dsimp only at hev' ⊢
            obtain ⟨ea', ec', rfl, -, -⟩ := hev'.slice
            have hx0' : Ext wo w' := (show Ext wo _ by (· repeat (first | (with_reducible assumption) | exact Ext.refl _ | refine Ext.alloc ?_ _ | refine Ext.drew ?_ | refine Ext.drewN ?_ _ | (apply Ext.snart; (with_reducible assumption))))).trans hx'
            have hsx' : wo.heap.size + 1 ≤ w'.heap.size := by have h : (wo.alloc (.cells #[.int .i64 0, .int .i64 0, .int .i64 0, .bool false] 29)).heap.size ≤ w'.heap.size := hx'.size; (try simp only [heap_alloc_sz] at h); omega
            have hev' := hev'.upto.mono (S' := fun k => wo.heap.size + 1 ≤ k ∧ k < w'.heap.size) (fun k hk _ => ⟨by have h : (wo.alloc (.cells #[.int .i64 0, .int .i64 0, .int .i64 0, .bool false] 29)).heap.size ≤ k := hk.1; (try simp only [heap_alloc_sz] at h); omega, hk.2⟩)
            (refine hK.out _ _ ?_; clear hK K)
            (refine wpAnyT_any (i := 17) (v := ?_) rfl (by as_aux_lemma => kernel_rfl) (by as_aux_lemma => kernel_rfl) (by as_aux_lemma => kernel_rfl) (by as_aux_lemma => kernel_rfl) (fun _ _ _ h => h) (Or.inl ⟨by rfl, ?_⟩) ?_; rotate_left; ((intro wS hSw; (try simp only [List.getElem_toArray, List.getElem_cons_zero, List.getElem_cons_succ]); go_simp); (try with_reducible rfl)); (try simp only [Act.put, List.getElem_toArray, List.getElem_cons_zero, List.getElem_cons_succ, List.setIfInBounds_toArray, List.set_cons_zero, List.set_cons_succ]))
            (refine wpAnyT_any (i := 18) (v := ?_) rfl (by as_aux_lemma => kernel_rfl) (by as_aux_lemma => kernel_rfl) (by as_aux_lemma => kernel_rfl) (by as_aux_lemma => kernel_rfl) (fun _ _ _ h => h) (Or.inl ⟨by rfl, ?_⟩) ?_; rotate_left; ((intro wS hSw; (try simp only [List.getElem_toArray, List.getElem_cons_zero, List.getElem_cons_succ]); go_simp); (try with_reducible rfl)); (try simp only [Act.put, List.getElem_toArray, List.getElem_cons_zero, List.getElem_cons_succ, List.setIfInBounds_toArray, List.set_cons_zero, List.set_cons_succ]))
            (refine wpAnyT_any (i := 19) (v := ?_) rfl (by as_aux_lemma => kernel_rfl) (by as_aux_lemma => kernel_rfl) (by as_aux_lemma => kernel_rfl) (by as_aux_lemma => kernel_rfl) (fun _ _ _ h => h) (Or.inl ⟨by rfl, ?_⟩) ?_; rotate_left; ((intro wS hSw; (try simp only [List.getElem_toArray, List.getElem_cons_zero, List.getElem_cons_succ]); go_simp); (try with_reducible rfl)); (try simp only [Act.put, List.getElem_toArray, List.getElem_cons_zero, List.getElem_cons_succ, List.setIfInBounds_toArray, List.set_cons_zero, List.set_cons_succ]))
            (refine wpAnyT_any (i := 20) (v := ?_) rfl (by as_aux_lemma => kernel_rfl) (by as_aux_lemma => kernel_rfl) (by as_aux_lemma => kernel_rfl) (by as_aux_lemma => kernel_rfl) (fun _ _ _ h => h) (Or.inl ⟨by rfl, ?_⟩) ?_; rotate_left; ((intro wS hSw; (try simp only [List.getElem_toArray, List.getElem_cons_zero, List.getElem_cons_succ]); go_simp); (try with_reducible rfl)); (try simp only [Act.put, List.getElem_toArray, List.getElem_cons_zero, List.getElem_cons_succ, List.setIfInBounds_toArray, List.set_cons_zero, List.set_cons_succ]))
            refine wpAnyT_all (rs := [22]) (by as_aux_lemma => kernel_rfl) (by decide) (AllT.consS rfl (fun K hK => ?_) AllT.nil)
            go_simp
            (refine hK.out _ _ (keep3 (show Ext wo _ by (· repeat (first | (with_reducible assumption) | exact Ext.refl _ | refine Ext.alloc ?_ _ | refine Ext.drew ?_ | refine Ext.drewN ?_ _ | (apply Ext.snart; (with_reducible assumption))))) d1 d2 d5) (fun hS => ?_); clear hK K)
            have hA : (w'.alloc (.cells #[.string ⟨#[]⟩, .string ⟨#[]⟩, .int .i64 0, .slice none 0 0] 31)).heap[wo.heap.size]? = some (.cells #[.int .i64 0, .int .i64 0, .int .i64 0, .bool false] 29 (0, 0)) := (Below.block ((Ext.refl w').alloc _) _ (by omega)).trans ((Below.block hx' _ (by simp)).trans (heap_alloc_new wo _))
            have hB : (w'.alloc (.cells #[.string ⟨#[]⟩, .string ⟨#[]⟩, .int .i64 0, .slice none 0 0] 31)).heap[w'.heap.size]? = some (.cells #[.string ⟨#[]⟩, .string ⟨#[]⟩, .int .i64 0, .slice none 0 0] 31 (0, 0)) := heap_alloc_new _ _
            have hxW : Ext wo (w'.alloc (.cells #[.string ⟨#[]⟩, .string ⟨#[]⟩, .int .i64 0, .slice none 0 0] 31)) := by (· repeat (first | (with_reducible assumption) | exact Ext.refl _ | refine Ext.alloc ?_ _ | refine Ext.drew ?_ | refine Ext.drewN ?_ _ | (apply Ext.snart; (with_reducible assumption))))
            have hevW : RdS rE (w'.alloc (.cells #[.string ⟨#[]⟩, .string ⟨#[]⟩, .int .i64 0, .slice none 0 0] 31)) (fun k => wo.heap.size ≤ k ∧ k ≠ wo.heap.size ∧ k ≠ w'.heap.size) (.slice ea' bes.length ec') bes := (hev'.ext (show Ext w' _ by (· repeat (first | (with_reducible assumption) | exact Ext.refl _ | refine Ext.alloc ?_ _ | refine Ext.drew ?_ | refine Ext.drewN ?_ _ | (apply Ext.snart; (with_reducible assumption)))))).mono (fun k hk _ => by have h1 := hk.1; have h2 := hk.2; refine ⟨?_, ?_, ?_⟩ <;> omega)
            have hAB : ¬ wo.heap.size = w'.heap.size := by omega
            have hgA : wo.heap.size ≤ wo.heap.size := by omega
            have hgB : wo.heap.size ≤ w'.heap.size := by omega
            obtain ⟨W0, hW0⟩ : ∃ W0, W0 = w'.alloc (.cells #[.string ⟨#[]⟩, .string ⟨#[]⟩, .int .i64 0, .slice none 0 0] 31) := ⟨_, rfl⟩
            rw [← hW0] at hA hB hxW hevW ⊢
            clear hW0
            have HA := hid hA
            have HB := hid hB
            have HEVW := hid hevW
            have HXW := hid hxW
            have yA0 : W0.cell? ⟨wo.heap.size, 0, none⟩ = some (.int .i64 0) := (cell_of_row _ _ 0 _ _ _ HA.out).trans rfl
            have xA0 := frozen_blk HA.out 0
            have yA1 : W0.cell? ⟨wo.heap.size, 1, none⟩ = some (.int .i64 0) := (cell_of_row _ _ 1 _ _ _ HA.out).trans rfl
            have xA1 := frozen_blk HA.out 1
            have yA2 : W0.cell? ⟨wo.heap.size, 2, none⟩ = some (.int .i64 0) := (cell_of_row _ _ 2 _ _ _ HA.out).trans rfl
            have xA2 := frozen_blk HA.out 2
            have yA3 : W0.cell? ⟨wo.heap.size, 3, none⟩ = some (.bool false) := (cell_of_row _ _ 3 _ _ _ HA.out).trans rfl
            have xA3 := frozen_blk HA.out 3
            have yB0 : W0.cell? ⟨w'.heap.size, 0, none⟩ = some (.string ⟨#[]⟩) := (cell_of_row _ _ 0 _ _ _ HB.out).trans rfl
            have xB0 := frozen_blk HB.out 0
            have yB1 : W0.cell? ⟨w'.heap.size, 1, none⟩ = some (.string ⟨#[]⟩) := (cell_of_row _ _ 1 _ _ _ HB.out).trans rfl
            have xB1 := frozen_blk HB.out 1
            have yB2 : W0.cell? ⟨w'.heap.size, 2, none⟩ = some (.int .i64 0) := (cell_of_row _ _ 2 _ _ _ HB.out).trans rfl
            have xB2 := frozen_blk HB.out 2
            have yB3 : W0.cell? ⟨w'.heap.size, 3, none⟩ = some (.slice none 0 0) := (cell_of_row _ _ 3 _ _ _ HB.out).trans rfl
            have xB3 := frozen_blk HB.out 3
            have hBA : ¬ w'.heap.size = wo.heap.size := by omega
            clear hA hB hxW hevW hev' hx' hsx' hx0' d1 d2 d5
            refine wpAnyT_all (rs := [23]) (by as_aux_lemma => kernel_rfl) (by decide) (AllT.consF rfl rfl (fun K hK => ?_) AllT.nil)
            go_simp
            (refine hK.out _ _ ?_; clear hK K)
            refine wpAnyT_all (rs := [24]) (by as_aux_lemma => kernel_rfl) (by decide) (AllT.consF rfl rfl (fun K hK => ?_) AllT.nil)
            go_simp
            (refine hK.out _ _ ?_; clear hK K)
            refine wpAnyT_all (rs := [25]) (by as_aux_lemma => kernel_rfl) (by decide) (AllT.consF rfl rfl (fun K hK => ?_) AllT.nil)
            go_simp
            (refine hK.out _ _ ?_; clear hK K)
            refine wpAnyT_done (by as_aux_lemma => kernel_rfl) (NoPanic.normal ?_) _
            go_wp2_with fail
            go_meet
            obtain ⟨qA, qB⟩ := eight_cells (u0 := .int .i64 zf) (u1 := .int .i64 zp) (u2 := .int .i64 zc) (u3 := .bool zg) (v0 := .string bs) (v1 := .string bk) (v2 := .int .i64 bf) (v3 := .slice ea' bes.length ec') HA.out HB.out hAB
            exact ⟨_, _, _, rfl, rfl, rfl, hgB, hgA, ⟨(cell_of_row _ _ 0 _ _ _ qA).trans rfl, (cell_of_row _ _ 1 _ _ _ qA).trans rfl, (cell_of_row _ _ 2 _ _ _ qA).trans rfl, (cell_of_row _ _ 3 _ _ _ qA).trans rfl⟩, ⟨(cell_of_row _ _ 0 _ _ _ qB).trans rfl, (cell_of_row _ _ 1 _ _ _ qB).trans rfl, (cell_of_row _ _ 2 _ _ _ qB).trans rfl, (cell_of_row _ _ 3 _ _ _ qB).trans rfl⟩, (HEVW.out.kept (eight_keep (fun h => h.2.1 rfl) (fun h => h.2.2 rfl))).mono (fun k hk _ => hk.1), eight_ext HXW.out hgA hgB⟩
          · go_simp
            (refine hK.out _ _ (keep3 (show Ext wo _ by (· repeat (first | (with_reducible assumption) | exact Ext.refl _ | refine Ext.alloc ?_ _ | refine Ext.drew ?_ | refine Ext.drewN ?_ _ | (apply Ext.snart; (with_reducible assumption))))) d1 d2 d5) (fun hS => ?_); clear hK K)
            refine wpAnyT_all (rs := [16]) (by as_aux_lemma => kernel_rfl) (by decide) (AllT.consF rfl rfl (fun K hK => ?_) AllT.nil)
            go_simp
            go_at_call 17
            refine (Try_idx _ _ g x (HI.out.ext (by (· repeat (first | (with_reducible assumption) | exact Ext.refl _ | refine Ext.alloc ?_ _ | refine Ext.drew ?_ | refine Ext.drewN ?_ _ | (apply Ext.snart; (with_reducible assumption)))))) (by omega) _ hs1 (-1) (by decide) _ hs2 _ _ _ (HL.out.ext (by (· repeat (first | (with_reducible assumption) | exact Ext.refl _ | refine Ext.alloc ?_ _ | refine Ext.drew ?_ | refine Ext.drewN ?_ _ | (apply Ext.snart; (with_reducible assumption)))))) hlen (by omega)).mono ?_
            rintro e w' ⟨ev', rfl, hev', hx'⟩
            rw [HZ.out] at hev' ⊢
            dsimp only at hev' ⊢
            obtain ⟨ea', ec', rfl, -, -⟩ := hev'.slice
            have hx0' : Ext wo w' := (show Ext wo _ by (· repeat (first | (with_reducible assumption) | exact Ext.refl _ | refine Ext.alloc ?_ _ | refine Ext.drew ?_ | refine Ext.drewN ?_ _ | (apply Ext.snart; (with_reducible assumption))))).trans hx'
            have hsx' : wo.heap.size + 2 ≤ w'.heap.size := by have h : ((wo.alloc (.cells #[.int .i64 0, .int .i64 0, .int .i64 0, .bool false] 29)).alloc (.cells #[.string ⟨#[]⟩, .string ⟨#[]⟩, .int .i64 0, .slice none 0 0] 31)).heap.size ≤ w'.heap.size := hx'.size; (try simp only [heap_alloc_sz] at h); omega
            have hev' := hev'.upto.mono (S' := fun k => wo.heap.size + 2 ≤ k ∧ k < w'.heap.size) (fun k hk _ => ⟨by have h : ((wo.alloc (.cells #[.int .i64 0, .int .i64 0, .int .i64 0, .bool false] 29)).alloc (.cells #[.string ⟨#[]⟩, .string ⟨#[]⟩, .int .i64 0, .slice none 0 0] 31)).heap.size ≤ k := hk.1; (try simp only [heap_alloc_sz] at h); omega, hk.2⟩)
            (refine hK.out _ _ ?_; clear hK K)
            (refine wpAnyT_any (i := 17) (v := ?_) rfl (by as_aux_lemma => kernel_rfl) (by as_aux_lemma => kernel_rfl) (by as_aux_lemma => kernel_rfl) (by as_aux_lemma => kernel_rfl) (fun _ _ _ h => h) (Or.inl ⟨by rfl, ?_⟩) ?_; rotate_left; ((intro wS hSw; (try simp only [List.getElem_toArray, List.getElem_cons_zero, List.getElem_cons_succ]); go_simp); (try with_reducible rfl)); (try simp only [Act.put, List.getElem_toArray, List.getElem_cons_zero, List.getElem_cons_succ, List.setIfInBounds_toArray, List.set_cons_zero, List.set_cons_succ]))
            (refine wpAnyT_any (i := 18) (v := ?_) rfl (by as_aux_lemma => kernel_rfl) (by as_aux_lemma => kernel_rfl) (by as_aux_lemma => kernel_rfl) (by as_aux_lemma => kernel_rfl) (fun _ _ _ h => h) (Or.inl ⟨by rfl, ?_⟩) ?_; rotate_left; ((intro wS hSw; (try simp only [List.getElem_toArray, List.getElem_cons_zero, List.getElem_cons_succ]); go_simp); (try with_reducible rfl)); (try simp only [Act.put, List.getElem_toArray, List.getElem_cons_zero, List.getElem_cons_succ, List.setIfInBounds_toArray, List.set_cons_zero, List.set_cons_succ]))
            (refine wpAnyT_any (i := 19) (v := ?_) rfl (by as_aux_lemma => kernel_rfl) (by as_aux_lemma => kernel_rfl) (by as_aux_lemma => kernel_rfl) (by as_aux_lemma => kernel_rfl) (fun _ _ _ h => h) (Or.inl ⟨by rfl, ?_⟩) ?_; rotate_left; ((intro wS hSw; (try simp only [List.getElem_toArray, List.getElem_cons_zero, List.getElem_cons_succ]); go_simp); (try with_reducible rfl)); (try simp only [Act.put, List.getElem_toArray, List.getElem_cons_zero, List.getElem_cons_succ, List.setIfInBounds_toArray, List.set_cons_zero, List.set_cons_succ]))
            (refine wpAnyT_any (i := 20) (v := ?_) rfl (by as_aux_lemma => kernel_rfl) (by as_aux_lemma => kernel_rfl) (by as_aux_lemma => kernel_rfl) (by as_aux_lemma => kernel_rfl) (fun _ _ _ h => h) (Or.inl ⟨by rfl, ?_⟩) ?_; rotate_left; ((intro wS hSw; (try simp only [List.getElem_toArray, List.getElem_cons_zero, List.getElem_cons_succ]); go_simp); (try with_reducible rfl)); (try simp only [Act.put, List.getElem_toArray, List.getElem_cons_zero, List.getElem_cons_succ, List.setIfInBounds_toArray, List.set_cons_zero, List.set_cons_succ]))
            have hA : (w').heap[wo.heap.size]? = some (.cells #[.int .i64 0, .int .i64 0, .int .i64 0, .bool false] 29 (0, 0)) := (Below.block hx' _ (by simp; omega)).trans (alloc_two_a wo _ _ _)
            have hB : (w').heap[(wo.heap.size + 1)]? = some (.cells #[.string ⟨#[]⟩, .string ⟨#[]⟩, .int .i64 0, .slice none 0 0] 31 (0, 0)) := (Below.block hx' _ (by simp)).trans (alloc_two_b wo _ _ _)
            have hxW : Ext wo (w') := hx0'
            have hevW : RdS rE (w') (fun k => wo.heap.size ≤ k ∧ k ≠ wo.heap.size ∧ k ≠ (wo.heap.size + 1)) (.slice ea' bes.length ec') bes := (hev'.ext (show Ext w' _ by (· repeat (first | (with_reducible assumption) | exact Ext.refl _ | refine Ext.alloc ?_ _ | refine Ext.drew ?_ | refine Ext.drewN ?_ _ | (apply Ext.snart; (with_reducible assumption)))))).mono (fun k hk _ => by have h1 := hk.1; have h2 := hk.2; refine ⟨?_, ?_, ?_⟩ <;> omega)
            have hAB : ¬ wo.heap.size = (wo.heap.size + 1) := by omega
            have hgA : wo.heap.size ≤ wo.heap.size := by omega
            have hgB : wo.heap.size ≤ (wo.heap.size + 1) := by omega
            obtain ⟨W0, rfl⟩ : ∃ W0 : World, W0 = w' := ⟨_, rfl⟩
            have HA := hid hA
            have HB := hid hB
            have HEVW := hid hevW
            have HXW := hid hxW
            have yA0 : W0.cell? ⟨wo.heap.size, 0, none⟩ = some (.int .i64 0) := (cell_of_row _ _ 0 _ _ _ HA.out).trans rfl
            have xA0 := frozen_blk HA.out 0
            have yA1 : W0.cell? ⟨wo.heap.size, 1, none⟩ = some (.int .i64 0) := (cell_of_row _ _ 1 _ _ _ HA.out).trans rfl
            have xA1 := frozen_blk HA.out 1
            have yA2 : W0.cell? ⟨wo.heap.size, 2, none⟩ = some (.int .i64 0) := (cell_of_row _ _ 2 _ _ _ HA.out).trans rfl
            have xA2 := frozen_blk HA.out 2
            have yA3 : W0.cell? ⟨wo.heap.size, 3, none⟩ = some (.bool false) := (cell_of_row _ _ 3 _ _ _ HA.out).trans rfl
            have xA3 := frozen_blk HA.out 3
            have yB0 : W0.cell? ⟨(wo.heap.size + 1), 0, none⟩ = some (.string ⟨#[]⟩) := (cell_of_row _ _ 0 _ _ _ HB.out).trans rfl
            have xB0 := frozen_blk HB.out 0
            have yB1 : W0.cell? ⟨(wo.heap.size + 1), 1, none⟩ = some (.string ⟨#[]⟩) := (cell_of_row _ _ 1 _ _ _ HB.out).trans rfl
            have xB1 := frozen_blk HB.out 1
            have yB2 : W0.cell? ⟨(wo.heap.size + 1), 2, none⟩ = some (.int .i64 0) := (cell_of_row _ _ 2 _ _ _ HB.out).trans rfl
            have xB2 := frozen_blk HB.out 2
            have yB3 : W0.cell? ⟨(wo.heap.size + 1), 3, none⟩ = some (.slice none 0 0) := (cell_of_row _ _ 3 _ _ _ HB.out).trans rfl
            have xB3 := frozen_blk HB.out 3
            have hBA : ¬ (wo.heap.size + 1) = wo.heap.size := by omega
            clear hA hB hxW hevW hev' hx' hsx' hx0' d1 d2 d5
            refine wpAnyT_all (rs := [23]) (by as_aux_lemma => kernel_rfl) (by decide) (AllT.consF rfl rfl (fun K hK => ?_) AllT.nil)
            go_simp
            (refine hK.out _ _ ?_; clear hK K)
            refine wpAnyT_all (rs := [24]) (by as_aux_lemma => kernel_rfl) (by decide) (AllT.consF rfl rfl (fun K hK => ?_) AllT.nil)
            go_simp
            (refine hK.out _ _ ?_; clear hK K)
            refine wpAnyT_all (rs := [25]) (by as_aux_lemma => kernel_rfl) (by decide) (AllT.consF rfl rfl (fun K hK => ?_) AllT.nil)
            go_simp
            (refine hK.out _ _ ?_; clear hK K)
            refine wpAnyT_done (by as_aux_lemma => kernel_rfl) (NoPanic.normal ?_) _
            go_wp2_with fail
            go_meet
            obtain ⟨qA, qB⟩ := eight_cells (u0 := .int .i64 zf) (u1 := .int .i64 zp) (u2 := .int .i64 zc) (u3 := .bool zg) (v0 := .string bs) (v1 := .string bk) (v2 := .int .i64 bf) (v3 := .slice ea' bes.length ec') HA.out HB.out hAB
            exact ⟨_, _, _, rfl, rfl, rfl, hgB, hgA, ⟨(cell_of_row _ _ 0 _ _ _ qA).trans rfl, (cell_of_row _ _ 1 _ _ _ qA).trans rfl, (cell_of_row _ _ 2 _ _ _ qA).trans rfl, (cell_of_row _ _ 3 _ _ _ qA).trans rfl⟩, ⟨(cell_of_row _ _ 0 _ _ _ qB).trans rfl, (cell_of_row _ _ 1 _ _ _ qB).trans rfl, (cell_of_row _ _ 2 _ _ _ qB).trans rfl, (cell_of_row _ _ 3 _ _ _ qB).trans rfl⟩, (HEVW.out.kept (eight_keep (fun h => h.2.1 rfl) (fun h => h.2.2 rfl))).mono (fun k hk _ => hk.1), eight_ext HXW.out hgA hgB⟩
        · go_simp
          (refine hK.out _ _ (keep3 (show Ext wo _ by (· repeat (first | (with_reducible assumption) | exact Ext.refl _ | refine Ext.alloc ?_ _ | refine Ext.drew ?_ | refine Ext.drewN ?_ _ | (apply Ext.snart; (with_reducible assumption))))) d1 d2 d5) (fun hS => ?_); clear hK K)
          refine wpAnyT_all (rs := [16, 21]) (by as_aux_lemma => kernel_rfl) (by decide) (AllT.consF rfl rfl (fun K hK => ?_) (AllT.consS rfl (fun K hK => ?_) AllT.nil))
          · go_simp
            go_at_call 17
            refine (Try_idx _ _ g x (HI.out.ext (by (· repeat (first | (with_reducible assumption) | exact Ext.refl _ | refine Ext.alloc ?_ _ | refine Ext.drew ?_ | refine Ext.drewN ?_ _ | (apply Ext.snart; (with_reducible assumption)))))) (by omega) _ hs1 (-1) (by decide) _ hs2 _ _ _ (HL.out.ext (by (· repeat (first | (with_reducible assumption) | exact Ext.refl _ | refine Ext.alloc ?_ _ | refine Ext.drew ?_ | refine Ext.drewN ?_ _ | (apply Ext.snart; (with_reducible assumption)))))) hlen (by omega)).mono ?_
            rintro e w' ⟨ev', rfl, hev', hx'⟩
            rw [HZ.out] at hev' ⊢
            dsimp only at hev' ⊢
            obtain ⟨ea', ec', rfl, -, -⟩ := hev'.slice
            have hx0' : Ext wo w' := (show Ext wo _ by (· repeat (first | (with_reducible assumption) | exact Ext.refl _ | refine Ext.alloc ?_ _ | refine Ext.drew ?_ | refine Ext.drewN ?_ _ | (apply Ext.snart; (with_reducible assumption))))).trans hx'
            have hsx' : wo.heap.size + 1 ≤ w'.heap.size := by have h : (wo.alloc (.cells #[.string ⟨#[]⟩, .string ⟨#[]⟩, .int .i64 0, .slice none 0 0] 31)).heap.size ≤ w'.heap.size := hx'.size; (try simp only [heap_alloc_sz] at h); omega
            have hev' := hev'.upto.mono (S' := fun k => wo.heap.size + 1 ≤ k ∧ k < w'.heap.size) (fun k hk _ => ⟨by have h : (wo.alloc (.cells #[.string ⟨#[]⟩, .string ⟨#[]⟩, .int .i64 0, .slice none 0 0] 31)).heap.size ≤ k := hk.1; (try simp only [heap_alloc_sz] at h); omega, hk.2⟩)
            (refine hK.out _ _ ?_; clear hK K)
            (refine wpAnyT_any (i := 17) (v := ?_) rfl (by as_aux_lemma => kernel_rfl) (by as_aux_lemma => kernel_rfl) (by as_aux_lemma => kernel_rfl) (by as_aux_lemma => kernel_rfl) (fun _ _ _ h => h) (Or.inl ⟨by rfl, ?_⟩) ?_; rotate_left; ((intro wS hSw; (try simp only [List.getElem_toArray, List.getElem_cons_zero, List.getElem_cons_succ]); go_simp); (try with_reducible rfl)); (try simp only [Act.put, List.getElem_toArray, List.getElem_cons_zero, List.getElem_cons_succ, List.setIfInBounds_toArray, List.set_cons_zero, List.set_cons_succ]))
            (refine wpAnyT_any (i := 18) (v := ?_) rfl (by as_aux_lemma => kernel_rfl) (by as_aux_lemma => kernel_rfl) (by as_aux_lemma => kernel_rfl) (by as_aux_lemma => kernel_rfl) (fun _ _ _ h => h) (Or.inl ⟨by rfl, ?_⟩) ?_; rotate_left; ((intro wS hSw; (try simp only [List.getElem_toArray, List.getElem_cons_zero, List.getElem_cons_succ]); go_simp); (try with_reducible rfl)); (try simp only [Act.put, List.getElem_toArray, List.getElem_cons_zero, List.getElem_cons_succ, List.setIfInBounds_toArray, List.set_cons_zero, List.set_cons_succ]))
            (refine wpAnyT_any (i := 19) (v := ?_) rfl (by as_aux_lemma => kernel_rfl) (by as_aux_lemma => kernel_rfl) (by as_aux_lemma => kernel_rfl) (by as_aux_lemma => kernel_rfl) (fun _ _ _ h => h) (Or.inl ⟨by rfl, ?_⟩) ?_; rotate_left; ((intro wS hSw; (try simp only [List.getElem_toArray, List.getElem_cons_zero, List.getElem_cons_succ]); go_simp); (try with_reducible rfl)); (try simp only [Act.put, List.getElem_toArray, List.getElem_cons_zero, List.getElem_cons_succ, List.setIfInBounds_toArray, List.set_cons_zero, List.set_cons_succ]))
            (refine wpAnyT_any (i := 20) (v := ?_) rfl (by as_aux_lemma => kernel_rfl) (by as_aux_lemma => kernel_rfl) (by as_aux_lemma => kernel_rfl) (by as_aux_lemma => kernel_rfl) (fun _ _ _ h => h) (Or.inl ⟨by rfl, ?_⟩) ?_; rotate_left; ((intro wS hSw; (try simp only [List.getElem_toArray, List.getElem_cons_zero, List.getElem_cons_succ]); go_simp); (try with_reducible rfl)); (try simp only [Act.put, List.getElem_toArray, List.getElem_cons_zero, List.getElem_cons_succ, List.setIfInBounds_toArray, List.set_cons_zero, List.set_cons_succ]))
            refine wpAnyT_all (rs := [21]) (by as_aux_lemma => kernel_rfl) (by decide) (AllT.consS rfl (fun K hK => ?_) AllT.nil)
            go_simp
            (refine hK.out _ _ (keep3 (show Ext wo _ by (· repeat (first | (with_reducible assumption) | exact Ext.refl _ | refine Ext.alloc ?_ _ | refine Ext.drew ?_ | refine Ext.drewN ?_ _ | (apply Ext.snart; (with_reducible assumption))))) d1 d2 d5) (fun hS => ?_); clear hK K)
            have hA : (w'.alloc (.cells #[.int .i64 0, .int .i64 0, .int .i64 0, .bool false] 29)).heap[w'.heap.size]? = some (.cells #[.int .i64 0, .int .i64 0, .int .i64 0, .bool false] 29 (0, 0)) := heap_alloc_new _ _
            have hB : (w'.alloc (.cells #[.int .i64 0, .int .i64 0, .int .i64 0, .bool false] 29)).heap[wo.heap.size]? = some (.cells #[.string ⟨#[]⟩, .string ⟨#[]⟩, .int .i64 0, .slice none 0 0] 31 (0, 0)) := (Below.block ((Ext.refl w').alloc _) _ (by omega)).trans ((Below.block hx' _ (by simp)).trans (heap_alloc_new wo _))
            have hxW : Ext wo (w'.alloc (.cells #[.int .i64 0, .int .i64 0, .int .i64 0, .bool false] 29)) := by (· repeat (first | (with_reducible assumption) | exact Ext.refl _ | refine Ext.alloc ?_ _ | refine Ext.drew ?_ | refine Ext.drewN ?_ _ | (apply Ext.snart; (with_reducible assumption))))
            have hevW : RdS rE (w'.alloc (.cells #[.int .i64 0, .int .i64 0, .int .i64 0, .bool false] 29)) (fun k => wo.heap.size ≤ k ∧ k ≠ w'.heap.size ∧ k ≠ wo.heap.size) (.slice ea' bes.length ec') bes := (hev'.ext (show Ext w' _ by (· repeat (first | (with_reducible assumption) | exact Ext.refl _ | refine Ext.alloc ?_ _ | refine Ext.drew ?_ | refine Ext.drewN ?_ _ | (apply Ext.snart; (with_reducible assumption)))))).mono (fun k hk _ => by have h1 := hk.1; have h2 := hk.2; refine ⟨?_, ?_, ?_⟩ <;> omega)
            have hAB : ¬ w'.heap.size = wo.heap.size := by omega
            have hgA : wo.heap.size ≤ w'.heap.size := by omega
            have hgB : wo.heap.size ≤ wo.heap.size := by omega
            obtain ⟨W0, hW0⟩ : ∃ W0, W0 = w'.alloc (.cells #[.int .i64 0, .int .i64 0, .int .i64 0, .bool false] 29) := ⟨_, rfl⟩
            rw [← hW0] at hA hB hxW hevW ⊢
            clear hW0
            have HA := hid hA
            have HB := hid hB
            have HEVW := hid hevW
            have HXW := hid hxW
            have yA0 : W0.cell? ⟨w'.heap.size, 0, none⟩ = some (.int .i64 0) := (cell_of_row _ _ 0 _ _ _ HA.out).trans rfl
            have xA0 := frozen_blk HA.out 0
            have yA1 : W0.cell? ⟨w'.heap.size, 1, none⟩ = some (.int .i64 0) := (cell_of_row _ _ 1 _ _ _ HA.out).trans rfl
            have xA1 := frozen_blk HA.out 1
            have yA2 : W0.cell? ⟨w'.heap.size, 2, none⟩ = some (.int .i64 0) := (cell_of_row _ _ 2 _ _ _ HA.out).trans rfl
            have xA2 := frozen_blk HA.out 2
            have yA3 : W0.cell? ⟨w'.heap.size, 3, none⟩ = some (.bool false) := (cell_of_row _ _ 3 _ _ _ HA.out).trans rfl
            have xA3 := frozen_blk HA.out 3
            have yB0 : W0.cell? ⟨wo.heap.size, 0, none⟩ = some (.string ⟨#[]⟩) := (cell_of_row _ _ 0 _ _ _ HB.out).trans rfl
            have xB0 := frozen_blk HB.out 0
            have yB1 : W0.cell? ⟨wo.heap.size, 1, none⟩ = some (.string ⟨#[]⟩) := (cell_of_row _ _ 1 _ _ _ HB.out).trans rfl
            have xB1 := frozen_blk HB.out 1
            have yB2 : W0.cell? ⟨wo.heap.size, 2, none⟩ = some (.int .i64 0) := (cell_of_row _ _ 2 _ _ _ HB.out).trans rfl
            have xB2 := frozen_blk HB.out 2
            have yB3 : W0.cell? ⟨wo.heap.size, 3, none⟩ = some (.slice none 0 0) := (cell_of_row _ _ 3 _ _ _ HB.out).trans rfl
            have xB3 := frozen_blk HB.out 3
            have hBA : ¬ wo.heap.size = w'.heap.size := by omega
            clear hA hB hxW hevW hev' hx' hsx' hx0' d1 d2 d5
            refine wpAnyT_all (rs := [23]) (by as_aux_lemma => kernel_rfl) (by decide) (AllT.consF rfl rfl (fun K hK => ?_) AllT.nil)
            go_simp
            (refine hK.out _ _ ?_; clear hK K)
            refine wpAnyT_all (rs := [24]) (by as_aux_lemma => kernel_rfl) (by decide) (AllT.consF rfl rfl (fun K hK => ?_) AllT.nil)
            go_simp
            (refine hK.out _ _ ?_; clear hK K)
            refine wpAnyT_all (rs := [25]) (by as_aux_lemma => kernel_rfl) (by decide) (AllT.consF rfl rfl (fun K hK => ?_) AllT.nil)
            go_simp
            (refine hK.out _ _ ?_; clear hK K)
            refine wpAnyT_done (by as_aux_lemma => kernel_rfl) (NoPanic.normal ?_) _
            go_wp2_with fail
            go_meet
            obtain ⟨qA, qB⟩ := eight_cells (u0 := .int .i64 zf) (u1 := .int .i64 zp) (u2 := .int .i64 zc) (u3 := .bool zg) (v0 := .string bs) (v1 := .string bk) (v2 := .int .i64 bf) (v3 := .slice ea' bes.length ec') HA.out HB.out hAB
            exact ⟨_, _, _, rfl, rfl, rfl, hgB, hgA, ⟨(cell_of_row _ _ 0 _ _ _ qA).trans rfl, (cell_of_row _ _ 1 _ _ _ qA).trans rfl, (cell_of_row _ _ 2 _ _ _ qA).trans rfl, (cell_of_row _ _ 3 _ _ _ qA).trans rfl⟩, ⟨(cell_of_row _ _ 0 _ _ _ qB).trans rfl, (cell_of_row _ _ 1 _ _ _ qB).trans rfl, (cell_of_row _ _ 2 _ _ _ qB).trans rfl, (cell_of_row _ _ 3 _ _ _ qB).trans rfl⟩, (HEVW.out.kept (eight_keep (fun h => h.2.1 rfl) (fun h => h.2.2 rfl))).mono (fun k hk _ => hk.1), eight_ext HXW.out hgA hgB⟩
          · go_simp
            (refine hK.out _ _ (keep3 (show Ext wo _ by (· repeat (first | (with_reducible assumption) | exact Ext.refl _ | refine Ext.alloc ?_ _ | refine Ext.drew ?_ | refine Ext.drewN ?_ _ | (apply Ext.snart; (with_reducible assumption))))) d1 d2 d5) (fun hS => ?_); clear hK K)
            refine wpAnyT_all (rs := [16]) (by as_aux_lemma => kernel_rfl) (by decide) (AllT.consF rfl rfl (fun K hK => ?_) AllT.nil)
            go_simp
            go_at_call 17
            refine (Try_idx _ _ g x (HI.out.ext (by (· repeat (first | (with_reducible assumption) | exact Ext.refl _ | refine Ext.alloc ?_ _ | refine Ext.drew ?_ | refine Ext.drewN ?_ _ | (apply Ext.snart; (with_reducible assumption)))))) (by omega) _ hs1 (-1) (by decide) _ hs2 _ _ _ (HL.out.ext (by (· repeat (first | (with_reducible assumption) | exact Ext.refl _ | refine Ext.alloc ?_ _ | refine Ext.drew ?_ | refine Ext.drewN ?_ _ | (apply Ext.snart; (with_reducible assumption)))))) hlen (by omega)).mono ?_
            rintro e w' ⟨ev', rfl, hev', hx'⟩
            rw [HZ.out] at hev' ⊢
            dsimp only at hev' ⊢
            obtain ⟨ea', ec', rfl, -, -⟩ := hev'.slice
            have hx0' : Ext wo w' := (show Ext wo _ by (· repeat (first | (with_reducible assumption) | exact Ext.refl _ | refine Ext.alloc ?_ _ | refine Ext.drew ?_ | refine Ext.drewN ?_ _ | (apply Ext.snart; (with_reducible assumption))))).trans hx'
            have hsx' : wo.heap.size + 2 ≤ w'.heap.size := by have h : ((wo.alloc (.cells #[.string ⟨#[]⟩, .string ⟨#[]⟩, .int .i64 0, .slice none 0 0] 31)).alloc (.cells #[.int .i64 0, .int .i64 0, .int .i64 0, .bool false] 29)).heap.size ≤ w'.heap.size := hx'.size; (try simp only [heap_alloc_sz] at h); omega
            have hev' := hev'.upto.mono (S' := fun k => wo.heap.size + 2 ≤ k ∧ k < w'.heap.size) (fun k hk _ => ⟨by have h : ((wo.alloc (.cells #[.string ⟨#[]⟩, .string ⟨#[]⟩, .int .i64 0, .slice none 0 0] 31)).alloc (.cells #[.int .i64 0, .int .i64 0, .int .i64 0, .bool false] 29)).heap.size ≤ k := hk.1; (try simp only [heap_alloc_sz] at h); omega, hk.2⟩)
            (refine hK.out _ _ ?_; clear hK K)
            (refine wpAnyT_any (i := 17) (v := ?_) rfl (by as_aux_lemma => kernel_rfl) (by as_aux_lemma => kernel_rfl) (by as_aux_lemma => kernel_rfl) (by as_aux_lemma => kernel_rfl) (fun _ _ _ h => h) (Or.inl ⟨by rfl, ?_⟩) ?_; rotate_left; ((intro wS hSw; (try simp only [List.getElem_toArray, List.getElem_cons_zero, List.getElem_cons_succ]); go_simp); (try with_reducible rfl)); (try simp only [Act.put, List.getElem_toArray, List.getElem_cons_zero, List.getElem_cons_succ, List.setIfInBounds_toArray, List.set_cons_zero, List.set_cons_succ]))
            (refine wpAnyT_any (i := 18) (v := ?_) rfl (by as_aux_lemma => kernel_rfl) (by as_aux_lemma => kernel_rfl) (by as_aux_lemma => kernel_rfl) (by as_aux_lemma => kernel_rfl) (fun _ _ _ h => h) (Or.inl ⟨by rfl, ?_⟩) ?_; rotate_left; ((intro wS hSw; (try simp only [List.getElem_toArray, List.getElem_cons_zero, List.getElem_cons_succ]); go_simp); (try with_reducible rfl)); (try simp only [Act.put, List.getElem_toArray, List.getElem_cons_zero, List.getElem_cons_succ, List.setIfInBounds_toArray, List.set_cons_zero, List.set_cons_succ]))
            (refine wpAnyT_any (i := 19) (v := ?_) rfl (by as_aux_lemma => kernel_rfl) (by as_aux_lemma => kernel_rfl) (by as_aux_lemma => kernel_rfl) (by as_aux_lemma => kernel_rfl) (fun _ _ _ h => h) (Or.inl ⟨by rfl, ?_⟩) ?_; rotate_left; ((intro wS hSw; (try simp only [List.getElem_toArray, List.getElem_cons_zero, List.getElem_cons_succ]); go_simp); (try with_reducible rfl)); (try simp only [Act.put, List.getElem_toArray, List.getElem_cons_zero, List.getElem_cons_succ, List.setIfInBounds_toArray, List.set_cons_zero, List.set_cons_succ]))
            (refine wpAnyT_any (i := 20) (v := ?_) rfl (by as_aux_lemma => kernel_rfl) (by as_aux_lemma => kernel_rfl) (by as_aux_lemma => kernel_rfl) (by as_aux_lemma => kernel_rfl) (fun _ _ _ h => h) (Or.inl ⟨by rfl, ?_⟩) ?_; rotate_left; ((intro wS hSw; (try simp only [List.getElem_toArray, List.getElem_cons_zero, List.getElem_cons_succ]); go_simp); (try with_reducible rfl)); (try simp only [Act.put, List.getElem_toArray, List.getElem_cons_zero, List.getElem_cons_succ, List.setIfInBounds_toArray, List.set_cons_zero, List.set_cons_succ]))
            have hA : (w').heap[(wo.heap.size + 1)]? = some (.cells #[.int .i64 0, .int .i64 0, .int .i64 0, .bool false] 29 (0, 0)) := (Below.block hx' _ (by simp)).trans (alloc_two_b wo _ _ _)
            have hB : (w').heap[wo.heap.size]? = some (.cells #[.string ⟨#[]⟩, .string ⟨#[]⟩, .int .i64 0, .slice none 0 0] 31 (0, 0)) := (Below.block hx' _ (by simp; omega)).trans (alloc_two_a wo _ _ _)
            have hxW : Ext wo (w') := hx0'
            have hevW : RdS rE (w') (fun k => wo.heap.size ≤ k ∧ k ≠ (wo.heap.size + 1) ∧ k ≠ wo.heap.size) (.slice ea' bes.length ec') bes := (hev'.ext (show Ext w' _ by (· repeat (first | (with_reducible assumption) | exact Ext.refl _ | refine Ext.alloc ?_ _ | refine Ext.drew ?_ | refine Ext.drewN ?_ _ | (apply Ext.snart; (with_reducible assumption)))))).mono (fun k hk _ => by have h1 := hk.1; have h2 := hk.2; refine ⟨?_, ?_, ?_⟩ <;> omega)
            have hAB : ¬ (wo.heap.size + 1) = wo.heap.size := by omega
            have hgA : wo.heap.size ≤ (wo.heap.size + 1) := by omega
            have hgB : wo.heap.size ≤ wo.heap.size := by omega
            obtain ⟨W0, rfl⟩ : ∃ W0 : World, W0 = w' := ⟨_, rfl⟩
            have HA := hid hA
            have HB := hid hB
            have HEVW := hid hevW
            have HXW := hid hxW
            have yA0 : W0.cell? ⟨(wo.heap.size + 1), 0, none⟩ = some (.int .i64 0) := (cell_of_row _ _ 0 _ _ _ HA.out).trans rfl
            have xA0 := frozen_blk HA.out 0
            have yA1 : W0.cell? ⟨(wo.heap.size + 1), 1, none⟩ = some (.int .i64 0) := (cell_of_row _ _ 1 _ _ _ HA.out).trans rfl
            have xA1 := frozen_blk HA.out 1
            have yA2 : W0.cell? ⟨(wo.heap.size + 1), 2, none⟩ = some (.int .i64 0) := (cell_of_row _ _ 2 _ _ _ HA.out).trans rfl
            have xA2 := frozen_blk HA.out 2
            have yA3 : W0.cell? ⟨(wo.heap.size + 1), 3, none⟩ = some (.bool false) := (cell_of_row _ _ 3 _ _ _ HA.out).trans rfl
            have xA3 := frozen_blk HA.out 3
            have yB0 : W0.cell? ⟨wo.heap.size, 0, none⟩ = some (.string ⟨#[]⟩) := (cell_of_row _ _ 0 _ _ _ HB.out).trans rfl
            have xB0 := frozen_blk HB.out 0
            have yB1 : W0.cell? ⟨wo.heap.size, 1, none⟩ = some (.string ⟨#[]⟩) := (cell_of_row _ _ 1 _ _ _ HB.out).trans rfl
            have xB1 := frozen_blk HB.out 1
            have yB2 : W0.cell? ⟨wo.heap.size, 2, none⟩ = some (.int .i64 0) := (cell_of_row _ _ 2 _ _ _ HB.out).trans rfl
            have xB2 := frozen_blk HB.out 2
            have yB3 : W0.cell? ⟨wo.heap.size, 3, none⟩ = some (.slice none 0 0) := (cell_of_row _ _ 3 _ _ _ HB.out).trans rfl
            have xB3 := frozen_blk HB.out 3
            have hBA : ¬ wo.heap.size = (wo.heap.size + 1) := by omega
            clear hA hB hxW hevW hev' hx' hsx' hx0' d1 d2 d5
            refine wpAnyT_all (rs := [23]) (by as_aux_lemma => kernel_rfl) (by decide) (AllT.consF rfl rfl (fun K hK => ?_) AllT.nil)
            go_simp
            (refine hK.out _ _ ?_; clear hK K)
            refine wpAnyT_all (rs := [24]) (by as_aux_lemma => kernel_rfl) (by decide) (AllT.consF rfl rfl (fun K hK => ?_) AllT.nil)
            go_simp
            (refine hK.out _ _ ?_; clear hK K)
            refine wpAnyT_all (rs := [25]) (by as_aux_lemma => kernel_rfl) (by decide) (AllT.consF rfl rfl (fun K hK => ?_) AllT.nil)
            go_simp
            (refine hK.out _ _ ?_; clear hK K)
            refine wpAnyT_done (by as_aux_lemma => kernel_rfl) (NoPanic.normal ?_) _
            go_wp2_with fail
            go_meet
            obtain ⟨qA, qB⟩ := eight_cells (u0 := .int .i64 zf) (u1 := .int .i64 zp) (u2 := .int .i64 zc) (u3 := .bool zg) (v0 := .string bs) (v1 := .string bk) (v2 := .int .i64 bf) (v3 := .slice ea' bes.length ec') HA.out HB.out hAB
            exact ⟨_, _, _, rfl, rfl, rfl, hgB, hgA, ⟨(cell_of_row _ _ 0 _ _ _ qA).trans rfl, (cell_of_row _ _ 1 _ _ _ qA).trans rfl, (cell_of_row _ _ 2 _ _ _ qA).trans rfl, (cell_of_row _ _ 3 _ _ _ qA).trans rfl⟩, ⟨(cell_of_row _ _ 0 _ _ _ qB).trans rfl, (cell_of_row _ _ 1 _ _ _ qB).trans rfl, (cell_of_row _ _ 2 _ _ _ qB).trans rfl, (cell_of_row _ _ 3 _ _ _ qB).trans rfl⟩, (HEVW.out.kept (eight_keep (fun h => h.2.1 rfl) (fun h => h.2.2 rfl))).mono (fun k hk _ => hk.1), eight_ext HXW.out hgA hgB⟩
      case rest =>
        obtain ⟨gA, gB, ev, rfl, rfl, rfl, hgB, hgA, -, ⟨b0, b1, b2, b3⟩, hev, hxc⟩ := hcut
        dsimp only at b0 b1 b2 b3 hev
        obtain ⟨ea, ec, rfl, -, hec⟩ := hev.slice
        have hbl : bes.length ≤ 9223372036854775807 := by obtain ⟨_, _, e, h1, h2⟩ := hev.slice; omega
        have HEV := hid hev
        have HXC := hid hxc
        have hsxc := hxc.size
        clear hev hxc d1 d2 d5
        by_cases he0 : er = 0
        · subst he0
          by_cases hl0 : 0 < bes.length
          · have hta := try_add (x := x) (s := cst) (n := -1) (k := cky) (l := cl) (by rw [HZ.out]) (by rw [HZ.out]; exact hl0)
            rw [HZ.out] at hta
            obtain ⟨hk0, hadd⟩ := hta
            have hnew := tryF_new (x := x) (s := cst) (n := -1) (k := cky) (l := cl) (by rw [HZ.out]) hk0
            have hzz := hnew.2.2
            rw [HZ.out] at hzz
            simp only [Prod.mk.injEq] at hzz
            obtain ⟨-, ⟨hq1, hq2, hq3, hq4⟩, -⟩ := hzz
            subst hq1 hq2 hq4
            have HQ3 := hid hq3
            have hq5 : (0 : Int) ≤ bf ∧ bf ≤ 100000 := by omega
            obtain ⟨hq5, hq6⟩ := hq5
            have HADD := hid hadd
            have HRE2 := hid (Reach.add _ HRE.out hadd)
            have hlen2 := addF_len x (bs, bk, bf, bes)
            have HLEN2 := hid hlen2
            clear hk0 hnew hadd hlen2 hq3
            go_wp2_with fail
            refine (Add_idx wc _ g x ((HI.out.mono (T' := fun k => w.heap.size ≤ k ∧ k < wo.heap.size) (fun k hk _ => hk)).ext HXC.out) (by omega) bs hs1 bk hs2 bf ⟨by omega, by omega⟩ (fun k => wo.heap.size ≤ k) (fun j hj h => by have h1 : wo.heap.size ≤ j := hj; omega) _ bes HEV.out hbl (by omega)).mono ?_
            rintro e w9 ⟨rfl, hi9, hk9⟩
            rw [HADD.out]
            have HI9 := hid hi9
            have HX9 := hid (show Ext w w9 from Below.trans (HX.out.trans HXC.out) (hk9.below w.heap.size ((HX.out.trans HXC.out).size) (fun k hk h => by omega)))
            have HS9 := hid hk9.size
            clear hi9 hk9 b0 b1 b2 b3
            go_wp2_with fail
            go_roundw
            case rel => exact ⟨i + 1, _, by go_num, by omega, by omega, HI9.out.mono (fun k hk hl => by have := HX.out.size; rcases hk with h | h; exact ⟨h.1, hl⟩; exact ⟨by omega, hl⟩), HRE2.out, by have := HLEN2.out.2; omega, HX9.out⟩
            case measure => simp [intOf]; omega
          · have hz0 : bes.length = 0 := by omega
            rw [hz0] at b3
            clear b0 b1 b2
            go_wp2_with fail
            go_roundw
            case rel => exact ⟨i + 1, x, by go_num, by omega, by omega, (HI.out.ext HXC.out).mono (fun k hk hl => ⟨hk.1, hl⟩), HRE.out, by omega, HX.out.trans HXC.out⟩
            case measure => simp [intOf]; omega
        · have he1 : ((er : Int) == 0) = false := by rw [beq_eq_false_iff_ne]; omega
          have he2 : ((er : Int) != 0) = true := by rw [bne_iff_ne]; omega
          clear b0 b1 b2 b3
          go_wp2_with fail
          go_roundw
          case rel => exact ⟨i + 1, x, by go_num, by omega, by omega, (HI.out.ext HXC.out).mono (fun k hk hl => ⟨hk.1, hl⟩), HRE.out, by omega, HX.out.trans HXC.out⟩
          case measure => simp [intOf]; omega
    · rw [decide_eq_false hgo]
      have hal : x.all.length ≤ 960 := by omega
      have hfl : ∀ e ∈ x.all, e.2.2.2.2.2.length ≤ 1000000 := fun e he => by have := HRE.out.flds e he; omega
      have htk : (x.all.drop 0).take 100000 = x.all := by rw [List.drop_zero, List.take_of_length_le (by omega)]
      have HFL := hid hfl
      have HTK := hid htk
      have HGD := hid HRE.out.good
      clear hgo hfl htk hi40 hil hall hx HS hsc1 hsc2
      obtain ⟨w0, rfl⟩ : ∃ w0 : World, w0 = wo := ⟨_, rfl⟩
      go_wp2_with fail
      refine (All_idx w0 _ g x HI.out (by omega) HFL.out 0 100000 (by decide) (by decide)).mono ?_
      rintro e wA ⟨va, rfl, hva, hxA⟩
      rw [HTK.out] at hva
      obtain ⟨aa, ac, rfl, -, -⟩ := hva.slice
      have HVA := hid hva
      have HXA := hid hxA
      clear hva hxA
      go_wp2_with fail
      refine (Len_idx wA _ g x (HI.out.ext HXA.out) (by omega)).mono ?_
      rintro e wA' ⟨rfl, rfl⟩
      go_wp2_with fail
      go_loopw [11] (fun u11 wr => ∃ i : Nat, u11 = .int .i64 i ∧ i ≤ x.all.length ∧ wr = wA) (fun u11 _ => x.all.length - (intOf u11).toNat)
      case atStart => exact ⟨0, rfl, by omega, rfl⟩
      case round =>
        obtain ⟨i, rfl, hi, rfl⟩ := hrel
        by_cases hlt : i < x.all.length
        · obtain ⟨g1, o1, cap1, cs1, e1, hg1, -, hcs1, hcc1, hrd1⟩ := HVA.out.at i hlt
          simp only [Value.slice.injEq] at e1
          obtain ⟨rfl, -, rfl⟩ := e1
          obtain ⟨fv, rfl, hf⟩ := rEnt_cells hrd1
          have b0 := hcc1 0 _ rfl
          simp only [← Nat.add_assoc, Nat.add_zero, show rEnt.size = 6 from rfl] at b0
          rw [HGD.out.pos i hlt] at b0
          clear hcc1 hrd1 hf
          go_wp2_with fail
          go_roundw
          case rel => exact ⟨i + 1, by go_num, by omega, by first | trivial | rfl⟩
          case measure => simp [intOf]; omega
        · clear hi
          obtain ⟨wA, rfl⟩ : ∃ wA : World, wA = wr := ⟨_, rfl⟩
          go_wp2_with fail
          refine (Names_idx _ _ g x (HI.out.ext HXA.out) (by omega)).mono ?_
          rintro e wN ⟨nv, nl, rfl, hnl, hna, hnn, hxN⟩
          obtain ⟨na, nc, rfl⟩ := hnl.slice
          have HNL := hid hnl.rdT
          have HNA := hid hna
          have htot : (nl.map fun s => (x.str s).length).sum = x.all.length := by
            refine HGD.out.sum nl (hna.1.imp fun {a b} h e => by rw [e] at h; exact List.lt_irrefl _ h) fun s hs => (hna.2 s).2 ⟨?_, hs⟩
            have := HRE.out.name s hs
            unfold nameOk at this
            rw [decide_eq_true_eq] at this
            unfold maxLen; omega
          have HTOT := hid htot
          have HXN := hid (HXA.out.trans hxN)
          have HVN := hid (HVA.out.ext hxN)
          clear hnl hna hxN hlt htot
          go_wp2_with fail
          go_loopw [13, 14] (fun u13 u14 wr => ∃ k : Nat, u13 = .int .i64 ((((nl.take k).map fun s => (x.str s).length).sum : Nat) : Int) ∧ u14 = .int .i64 k ∧ k ≤ nl.length ∧ Ext wN wr) (fun _ u14 _ => nl.length - (intOf u14).toNat)
          case atStart => exact ⟨0, rfl, rfl, by omega, Ext.refl _⟩
          case round =>
            obtain ⟨wo, rfl⟩ : ∃ wo : World, wo = wr := ⟨_, rfl⟩
            obtain ⟨k, rfl, rfl, hk, hxo⟩ := hrel
            have HXO := hid hxo
            clear hxo
            by_cases hlt : k < nl.length
            · have hsum : ((nl.take (k + 1)).map fun s => (x.str s).length).sum = ((nl.take k).map fun s => (x.str s).length).sum + (x.str nl[k]).length := by
                rw [List.take_succ_eq_append_getElem hlt, List.map_append, List.sum_append]; simp
              obtain ⟨M, hM⟩ : ∃ M, M = ((nl.take k).map fun s => (x.str s).length).sum := ⟨_, rfl⟩
              rw [← hM] at hsum ⊢
              obtain ⟨gn, on, cn, en, hgn, -, zn, hzn⟩ := (HNL.out.ext HXO.out).atS k hlt
              simp only [Value.slice.injEq] at en
              obtain ⟨rfl, -, rfl⟩ := en
              have hne := ((HNA.out.2 nl[k]).1 (List.getElem_mem hlt)).2
              have hup := HNA.out.1
              have hprev : (¬ 0 < k) ∨ ∃ j : Nat, k = j + 1 ∧ ∃ pv : ByteArray, wo.cell? ⟨gn, on + j, none⟩ = some (.string pv) ∧ pv.data.toList < nl[k].data.toList ∧ j < nl.length := by
                rcases Nat.eq_zero_or_pos k with h | h
                · exact .inl (by omega)
                · obtain ⟨j, rfl⟩ : ∃ j, k = j + 1 := ⟨k - 1, by omega⟩
                  obtain ⟨gn2, on2, cn2, en2, -, -, zn2, -⟩ := (HNL.out.ext HXO.out).atS j (by omega)
                  simp only [Value.slice.injEq, Option.some.injEq, Addr.mk.injEq] at en2
                  obtain ⟨⟨rfl, rfl, -⟩, -, -⟩ := en2
                  exact .inr ⟨j, rfl, _, zn2, List.pairwise_iff_getElem.1 hup j (j + 1) (by omega) hlt (by omega), by omega⟩
              have hlx := HRE.out.str nl[k]
              have HRG := hid (HGD.out.range nl[k])
              generalize nl[k] = nm at hsum zn hzn hne hprev hlx HRG
              have HSUM := hid hsum
              have HPREV := hid hprev
              have hgM : M ≤ 1000000 := by
                have h1 := HTOT.out
                rw [← List.take_append_drop k nl, List.map_append, List.sum_append, ← hM] at h1
                omega
              clear hsum hup hprev hM
              go_wp2_with fail
              refine (Stream_idx wo _ g x (HI.out.ext (HXN.out.trans HXO.out)) (by omega) HFL.out nm hzn HRG.out (by omega) 0 100000 (by decide) (by decide)).mono ?_
              rintro e w5 ⟨v5, S5, rfl, hv5, -, hx5⟩
              rw [show ((x.str nm).drop 0).take 100000 = x.str nm from by rw [List.drop_zero, List.take_of_length_le (by omega)]] at hv5
              obtain ⟨L, hL⟩ : ∃ L, L = atF x (x.str nm) := ⟨_, rfl⟩
              have hll : L.length = (x.str nm).length := by rw [hL, atF, List.length_map]
              rw [← hL] at hv5
              obtain ⟨a5, c5, rfl⟩ := hv5.slice
              have HV5 := hid hv5.rdT
              have HX5 := hid hx5
              have HL := hid hL
              have HLL := hid hll
              have hver : ∀ W, Ext w5 W → Calls Try.prog 16 #[.pointer (some ⟨g, 0, none⟩), .string nm] W fun e w' => e = .returned (.int .i64 (L.length : Int)) ∧ W = w' := fun W hW => by
                rw [hll]; exact Version_idx W _ g x (HI.out.ext (HXN.out.trans (HXO.out.trans (hx5.trans hW)))) nm hzn
              have HVER := hid hver
              have hpos : 0 < L.length := by
                rw [hll]
                rcases Nat.eq_zero_or_pos (x.str nm).length with h | h
                · exact absurd (List.eq_nil_of_length_eq_zero h) hne
                · exact h
              have zn5 := hx5.cellS zn
              have hgn5 : gn < w5.heap.size := Nat.lt_of_lt_of_le hgn hx5.size
              clear hv5 hx5 hL hver zn hgn hne hll
              go_upto_region 25 with fail
              go_cut [149] (fun s149 wx => s149 = .bool false ∧ Ext w5 wx)
              case first =>
                have hb0 : ((L.length : Int) == 0) = false := by rw [beq_eq_false_iff_ne]; omega
                rcases HPREV.out with hk0 | ⟨j, hkj, pv, zp, hless, hj⟩
                · have hk1 : ¬ (0 : Int) < (k : Int) := by omega
                  go_quiet (first | (go_at_call 16; exact quiet_same (HVER.out _ (by (· repeat (first | (with_reducible assumption) | exact Ext.refl _ | refine Ext.alloc ?_ _ | refine Ext.drew ?_ | refine Ext.drewN ?_ _ | (apply Ext.snart; (with_reducible assumption))))))))
                  go_wp2_with fail
                  go_meet
                  exact ⟨rfl, by (· repeat (first | (with_reducible assumption) | exact Ext.refl _ | refine Ext.alloc ?_ _ | refine Ext.drew ?_ | refine Ext.drewN ?_ _ | (apply Ext.snart; (with_reducible assumption))))⟩
                · have zp5 := HX5.out.cellS zp
                  obtain ⟨q1, q2⟩ := less_no hless
                  have hk0 : 0 < k := by omega
                  have hk1 : (0 : Int) < (k : Int) := by omega
                  have hk2 : IntKind.i64.wrap ((k : Int) - 1) = (j : Int) := by rw [IntKind.wrap_i64]; omega
                  clear hkj
                  clear hless zp
                  go_quiet (first | (go_at_call 16; exact quiet_same (HVER.out _ (by (· repeat (first | (with_reducible assumption) | exact Ext.refl _ | refine Ext.alloc ?_ _ | refine Ext.drew ?_ | refine Ext.drewN ?_ _ | (apply Ext.snart; (with_reducible assumption))))))))
                  go_wp2_with fail
                  go_meet
                  exact ⟨rfl, by (· repeat (first | (with_reducible assumption) | exact Ext.refl _ | refine Ext.alloc ?_ _ | refine Ext.drew ?_ | refine Ext.drewN ?_ _ | (apply Ext.snart; (with_reducible assumption))))⟩
              case rest =>
                obtain ⟨rfl, hx25⟩ := hcut
                have HX25 := hid (HX5.out.trans hx25)
                have HV6 := hid (HV5.out.ext hx25)
                have zn6 := hx25.cellS zn5
                have hgn6 : gn < wc.heap.size := Nat.lt_of_lt_of_le hgn5 hx25.size
                have HZN := hid zn6
                clear hx25 HVER HV5 HX5 HPREV zn5 hgn5 zn6
                obtain ⟨w6, rfl⟩ : ∃ w6 : World, w6 = wc := ⟨_, rfl⟩
                go_wp2_with fail
                go_loopw [13, 17] (fun u13 u17 wr => ∃ i : Nat, u13 = .int .i64 ((M + i : Nat) : Int) ∧ u17 = .int .i64 i ∧ i ≤ L.length ∧ Ext w6 wr) (fun _ u17 _ => L.length - (intOf u17).toNat)
                case atStart => exact ⟨0, by simp, rfl, by omega, Ext.refl _⟩
                case round =>
                  obtain ⟨wo2, rfl⟩ : ∃ wo2 : World, wo2 = wr := ⟨_, rfl⟩
                  obtain ⟨i, rfl, rfl, hi, hxi⟩ := hrel
                  have HXI := hid hxi
                  have zni := hxi.cellS HZN.out
                  have hgni : gn < wo2.heap.size := Nat.lt_of_lt_of_le hgn6 hxi.size
                  clear hxi
                  by_cases hil : i < L.length
                  · have hll := HLL.out
                    have hi2 : i < (x.str nm).length := by omega
                    obtain ⟨m, hm1, hm2, hm3, hm4⟩ := HGD.out.place nm i hi2
                    have hget : ∀ j, (hj : j < (x.str nm).length) → ∀ mm : Nat, (x.str nm)[j] = (mm : Int) → (hmm : mm < x.all.length) → L[j]'(by omega) = x.all[mm] := fun j hj mm e hmm => by
                      simp only [HL.out, atF, List.getElem_map, e, Int.toNat_natCast]
                      simp [hmm]
                    have hprev : (¬ 0 < i) ∨ ∃ j m' : Nat, i = j + 1 ∧ m' < m ∧ j < L.length ∧ ∃ (g5 o5 c5 : Nat), a5 = some ⟨g5, o5, none⟩ ∧ wo2.cell? ⟨g5, o5 + j * 6, none⟩ = some (.int .i64 (m' : Int)) := by
                      rcases Nat.eq_zero_or_pos i with h | h
                      · exact .inl (by omega)
                      · obtain ⟨j, rfl⟩ : ∃ j, i = j + 1 := ⟨i - 1, by omega⟩
                        obtain ⟨m', e1, e2, e3, e4⟩ := HGD.out.place nm j (by omega)
                        have hlt' := List.pairwise_iff_getElem.1 (HGD.out.up nm) j (j + 1) (by omega) hi2 (by omega)
                        obtain ⟨g5, o5, cap5, cs5, e5, hg5, -, hcs5, hcc5, hrd5⟩ := (HV6.out.ext HXI.out).at j (by omega)
                        obtain ⟨fv, rfl, hf⟩ := rEnt_cells hrd5
                        have b0 := hcc5 0 _ rfl
                        simp only [← Nat.add_assoc, Nat.add_zero, show rEnt.size = 6 from rfl] at b0
                        rw [hget j (by omega) m' e1 e2, HGD.out.pos m' e2] at b0
                        simp only [Value.slice.injEq] at e5
                        exact .inr ⟨j, m', rfl, by omega, by omega, g5, o5, cap5, e5.1, b0⟩
                    have HPR := hid hprev
                    obtain ⟨g5, o5, cap5, cs5, e5, hg5, -, hcs5, hcc5, hrd5⟩ := (HV6.out.ext HXI.out).at i hil
                    simp only [Value.slice.injEq] at e5
                    obtain ⟨rfl, -, rfl⟩ := e5
                    obtain ⟨fv, rfl, hf5⟩ := rEnt_cells hrd5
                    have b0 := hcc5 0 _ rfl
                    have b1 := hcc5 1 _ rfl
                    have b2 := hcc5 2 _ rfl
                    have b3 := hcc5 3 _ rfl
                    have b4 := hcc5 4 _ rfl
                    have b5 := hcc5 5 _ rfl
                    obtain ⟨g6, o6, cap6, cs6, e6, hg6, -, hcs6, hcc6, hrd6⟩ := (HVN.out.ext (HXO.out.trans (HX25.out.trans HXI.out))).at m hm2
                    simp only [Value.slice.injEq] at e6
                    obtain ⟨rfl, -, rfl⟩ := e6
                    obtain ⟨fv2, rfl, hf6⟩ := rEnt_cells hrd6
                    have c0 := hcc6 0 _ rfl
                    have c1 := hcc6 1 _ rfl
                    have c2 := hcc6 2 _ rfl
                    have c3 := hcc6 3 _ rfl
                    have c4 := hcc6 4 _ rfl
                    have c5' := hcc6 5 _ rfl
                    simp only [← Nat.add_assoc, Nat.add_zero, show rEnt.size = 6 from rfl] at b0 b1 b2 b3 b4 b5 c0 c1 c2 c3 c4 c5'
                    have hgi : L[i] = x.all[m] := hget i hi2 m hm1 hm2
                    simp only [hgi] at b0 b1 b2 b3 b4 b5 hrd5 hf5
                    have hm0 := HGD.out.pos m hm2
                    clear hgi
                    generalize x.all[m] = ent at b0 b1 b2 b3 b4 b5 c0 c1 c2 c3 c4 c5' hrd5 hrd6 hf5 hf6 hm0 hm3 hm4
                    obtain ⟨ep, es, enn, et, ev, efs⟩ := ent
                    dsimp only at b0 b1 b2 b3 b4 b5 c0 c1 c2 c3 c4 c5' hrd5 hrd6 hf5 hf6 hm0 hm3 hm4
                    subst hm0 hm3 hm4
                    obtain ⟨fa5, fc5, rfl, -, -⟩ := hf5.slice
                    obtain ⟨fa6, fc6, rfl, -, -⟩ := hf6.slice
                    have HR5 := hid hrd5
                    have HR6 := hid hrd6
                    clear hcc5 hcc6 hrd5 hrd6 hprev hget hm1 hf5 hf6 hll
                    go_upto_region 30 with fail
                    go_cut [202] (fun s202 wx => s202 = .bool false ∧ Ext wo2 wx)
                    case first =>
                      have hn0 : ((m : Int) != (m : Int)) = false := by simp
                      have hge : ¬ (x.all.length : Int) ≤ (m : Int) := by omega
                      rcases HPR.out with hk0 | ⟨j, m', hkj, hmm, hj, g7, o7, c7, e7, zp⟩
                      · have hk1 : ¬ (0 : Int) < (i : Int) := by omega
                        go_quiet (fail)
                        go_wp2_with fail
                        go_meet
                        exact ⟨rfl, by (· repeat (first | (with_reducible assumption) | exact Ext.refl _ | refine Ext.alloc ?_ _ | refine Ext.drew ?_ | refine Ext.drewN ?_ _ | (apply Ext.snart; (with_reducible assumption))))⟩
                      · simp only [Option.some.injEq, Addr.mk.injEq] at e7
                        obtain ⟨rfl, rfl, -⟩ := e7
                        have hk0 : 0 < i := by omega
                        have hk1 : (0 : Int) < (i : Int) := by omega
                        have hk2 : IntKind.i64.wrap ((i : Int) - 1) = (j : Int) := by rw [IntKind.wrap_i64]; omega
                        have hle : ¬ (m : Int) ≤ (m' : Int) := by omega
                        clear hkj
                        go_quiet (fail)
                        go_wp2_with fail
                        go_meet
                        exact ⟨rfl, by (· repeat (first | (with_reducible assumption) | exact Ext.refl _ | refine Ext.alloc ?_ _ | refine Ext.drew ?_ | refine Ext.drewN ?_ _ | (apply Ext.snart; (with_reducible assumption))))⟩
                    case rest =>
                      obtain ⟨rfl, hx30⟩ := hcut
                      replace b0 := hx30.cellS b0
                      replace b1 := hx30.cellS b1
                      replace b2 := hx30.cellS b2
                      replace b3 := hx30.cellS b3
                      replace b4 := hx30.cellS b4
                      replace b5 := hx30.cellS b5
                      replace c0 := hx30.cellS c0
                      replace c1 := hx30.cellS c1
                      replace c2 := hx30.cellS c2
                      replace c3 := hx30.cellS c3
                      replace c4 := hx30.cellS c4
                      replace c5' := hx30.cellS c5'
                      replace HR5 := hid (Rdr.ext HR5.out hx30)
                      replace HR6 := hid (Rdr.ext HR6.out hx30)
                      have hg5' : g5 < wc.heap.size := Nat.lt_of_lt_of_le hg5 hx30.size
                      have hg6' : g6 < wc.heap.size := Nat.lt_of_lt_of_le hg6 hx30.size
                      replace HXI := hid (HXI.out.trans hx30)
                      clear hx30 hcs5 hcs6 zni HPR hg5 hg6 hgni
                      obtain ⟨w7, rfl⟩ : ∃ w7 : World, w7 = wc := ⟨_, rfl⟩
                      go_upto_region 32 with fail
                      go_cut [18] (fun s18 wx => s18 = .bool true ∧ Ext w7 wx)
                      case first =>
                        go_wp2_with fail
                        have hxd : Ext w7 w7.drew := by (· repeat (first | (with_reducible assumption) | exact Ext.refl _ | refine Ext.alloc ?_ _ | refine Ext.drew ?_ | refine Ext.drewN ?_ _ | (apply Ext.snart; (with_reducible assumption))))
                        refine wp_region_T (fun w' => w'.cell? ⟨g5, o5 + i * 6, none⟩ = some (.int .i64 (m : Int)) ∧ w'.cell? ⟨g5, o5 + i * 6 + 1, none⟩ = some (.string es) ∧ w'.cell? ⟨g5, o5 + i * 6 + 2, none⟩ = some (.int .i64 (i : Int)) ∧ w'.cell? ⟨g5, o5 + i * 6 + 3, none⟩ = some (.string et) ∧ w'.cell? ⟨g5, o5 + i * 6 + 4, none⟩ = some (.int .i64 ev) ∧ w'.cell? ⟨g5, o5 + i * 6 + 5, none⟩ = some (.slice fa5 efs.length fc5) ∧ w'.cell? ⟨g6, o6 + m * 6, none⟩ = some (.int .i64 (m : Int)) ∧ w'.cell? ⟨g6, o6 + m * 6 + 1, none⟩ = some (.string es) ∧ w'.cell? ⟨g6, o6 + m * 6 + 2, none⟩ = some (.int .i64 (i : Int)) ∧ w'.cell? ⟨g6, o6 + m * 6 + 3, none⟩ = some (.string et) ∧ w'.cell? ⟨g6, o6 + m * 6 + 4, none⟩ = some (.int .i64 ev) ∧ w'.cell? ⟨g6, o6 + m * 6 + 5, none⟩ = some (.slice fa6 efs.length fc6)) [14, 15] (by as_aux_lemma => kernel_rfl) ⟨hxd.cellS b0, hxd.cellS b1, hxd.cellS b2, hxd.cellS b3, hxd.cellS b4, hxd.cellS b5, hxd.cellS c0, hxd.cellS c1, hxd.cellS c2, hxd.cellS c3, hxd.cellS c4, hxd.cellS c5'⟩ (fun hS => ?_)
                        have HS7 := hid (keep12 (Ext.refl w7) ⟨b0, b1, b2, b3, b4, b5, c0, c1, c2, c3, c4, c5'⟩)
                        (refine wpAnyT_take (i := 0) (v := ?_) rfl (by as_aux_lemma => kernel_rfl) (by as_aux_lemma => kernel_rfl) (by as_aux_lemma => kernel_rfl) (by as_aux_lemma => kernel_rfl) (fun _ _ _ h => h) (Or.inl ⟨by rfl, ?_⟩) (by assumption) ?_; rotate_left; ((intro wS hSw; (try dsimp only at hSw); (try simp only [List.getElem_toArray, List.getElem_cons_zero, List.getElem_cons_succ]); go_simp); (try with_reducible rfl)); (try simp only [Act.put, List.getElem_toArray, List.getElem_cons_zero, List.getElem_cons_succ, List.setIfInBounds_toArray, List.set_cons_zero, List.set_cons_succ]))
                        (refine wpAnyT_take (i := 1) (v := ?_) rfl (by as_aux_lemma => kernel_rfl) (by as_aux_lemma => kernel_rfl) (by as_aux_lemma => kernel_rfl) (by as_aux_lemma => kernel_rfl) (fun _ _ _ h => h) (Or.inl ⟨by rfl, ?_⟩) (by assumption) ?_; rotate_left; ((intro wS hSw; (try dsimp only at hSw); (try simp only [List.getElem_toArray, List.getElem_cons_zero, List.getElem_cons_succ]); go_simp); (try with_reducible rfl)); (try simp only [Act.put, List.getElem_toArray, List.getElem_cons_zero, List.getElem_cons_succ, List.setIfInBounds_toArray, List.set_cons_zero, List.set_cons_succ]))
                        (refine wpAnyT_take (i := 2) (v := ?_) rfl (by as_aux_lemma => kernel_rfl) (by as_aux_lemma => kernel_rfl) (by as_aux_lemma => kernel_rfl) (by as_aux_lemma => kernel_rfl) (fun _ _ _ h => h) (Or.inl ⟨by rfl, ?_⟩) (by assumption) ?_; rotate_left; ((intro wS hSw; (try dsimp only at hSw); (try simp only [List.getElem_toArray, List.getElem_cons_zero, List.getElem_cons_succ]); go_simp); (try with_reducible rfl)); (try simp only [Act.put, List.getElem_toArray, List.getElem_cons_zero, List.getElem_cons_succ, List.setIfInBounds_toArray, List.set_cons_zero, List.set_cons_succ]))
                        (refine wpAnyT_take (i := 3) (v := ?_) rfl (by as_aux_lemma => kernel_rfl) (by as_aux_lemma => kernel_rfl) (by as_aux_lemma => kernel_rfl) (by as_aux_lemma => kernel_rfl) (fun _ _ _ h => h) (Or.inl ⟨by rfl, ?_⟩) (by assumption) ?_; rotate_left; ((intro wS hSw; (try dsimp only at hSw); (try simp only [List.getElem_toArray, List.getElem_cons_zero, List.getElem_cons_succ]); go_simp); (try with_reducible rfl)); (try simp only [Act.put, List.getElem_toArray, List.getElem_cons_zero, List.getElem_cons_succ, List.setIfInBounds_toArray, List.set_cons_zero, List.set_cons_succ]))
                        (refine wpAnyT_take (i := 5) (v := ?_) rfl (by as_aux_lemma => kernel_rfl) (by as_aux_lemma => kernel_rfl) (by as_aux_lemma => kernel_rfl) (by as_aux_lemma => kernel_rfl) (fun _ _ _ h => h) (Or.inl ⟨by rfl, ?_⟩) (by assumption) ?_; rotate_left; ((intro wS hSw; (try dsimp only at hSw); (try simp only [List.getElem_toArray, List.getElem_cons_zero, List.getElem_cons_succ]); go_simp); (try with_reducible rfl)); (try simp only [Act.put, List.getElem_toArray, List.getElem_cons_zero, List.getElem_cons_succ, List.setIfInBounds_toArray, List.set_cons_zero, List.set_cons_succ]))
                        (refine wpAnyT_take (i := 6) (v := ?_) rfl (by as_aux_lemma => kernel_rfl) (by as_aux_lemma => kernel_rfl) (by as_aux_lemma => kernel_rfl) (by as_aux_lemma => kernel_rfl) (fun _ _ _ h => h) (Or.inl ⟨by rfl, ?_⟩) (by assumption) ?_; rotate_left; ((intro wS hSw; (try dsimp only at hSw); (try simp only [List.getElem_toArray, List.getElem_cons_zero, List.getElem_cons_succ]); go_simp); (try with_reducible rfl)); (try simp only [Act.put, List.getElem_toArray, List.getElem_cons_zero, List.getElem_cons_succ, List.setIfInBounds_toArray, List.set_cons_zero, List.set_cons_succ]))
                        (refine wpAnyT_take (i := 7) (v := ?_) rfl (by as_aux_lemma => kernel_rfl) (by as_aux_lemma => kernel_rfl) (by as_aux_lemma => kernel_rfl) (by as_aux_lemma => kernel_rfl) (fun _ _ _ h => h) (Or.inl ⟨by rfl, ?_⟩) (by assumption) ?_; rotate_left; ((intro wS hSw; (try dsimp only at hSw); (try simp only [List.getElem_toArray, List.getElem_cons_zero, List.getElem_cons_succ]); go_simp); (try with_reducible rfl)); (try simp only [Act.put, List.getElem_toArray, List.getElem_cons_zero, List.getElem_cons_succ, List.setIfInBounds_toArray, List.set_cons_zero, List.set_cons_succ]))
                        (refine wpAnyT_take (i := 8) (v := ?_) rfl (by as_aux_lemma => kernel_rfl) (by as_aux_lemma => kernel_rfl) (by as_aux_lemma => kernel_rfl) (by as_aux_lemma => kernel_rfl) (fun _ _ _ h => h) (Or.inl ⟨by rfl, ?_⟩) (by assumption) ?_; rotate_left; ((intro wS hSw; (try dsimp only at hSw); (try simp only [List.getElem_toArray, List.getElem_cons_zero, List.getElem_cons_succ]); go_simp); (try with_reducible rfl)); (try simp only [Act.put, List.getElem_toArray, List.getElem_cons_zero, List.getElem_cons_succ, List.setIfInBounds_toArray, List.set_cons_zero, List.set_cons_succ]))
                        (refine wpAnyT_take (i := 9) (v := ?_) rfl (by as_aux_lemma => kernel_rfl) (by as_aux_lemma => kernel_rfl) (by as_aux_lemma => kernel_rfl) (by as_aux_lemma => kernel_rfl) (fun _ _ _ h => h) (Or.inl ⟨by rfl, ?_⟩) (by assumption) ?_; rotate_left; ((intro wS hSw; (try dsimp only at hSw); (try simp only [List.getElem_toArray, List.getElem_cons_zero, List.getElem_cons_succ]); go_simp); (try with_reducible rfl)); (try simp only [Act.put, List.getElem_toArray, List.getElem_cons_zero, List.getElem_cons_succ, List.setIfInBounds_toArray, List.set_cons_zero, List.set_cons_succ]))
                        (refine wpAnyT_take (i := 10) (v := ?_) rfl (by as_aux_lemma => kernel_rfl) (by as_aux_lemma => kernel_rfl) (by as_aux_lemma => kernel_rfl) (by as_aux_lemma => kernel_rfl) (fun _ _ _ h => h) (Or.inl ⟨by rfl, ?_⟩) (by assumption) ?_; rotate_left; ((intro wS hSw; (try dsimp only at hSw); (try simp only [List.getElem_toArray, List.getElem_cons_zero, List.getElem_cons_succ]); go_simp); (try with_reducible rfl)); (try simp only [Act.put, List.getElem_toArray, List.getElem_cons_zero, List.getElem_cons_succ, List.setIfInBounds_toArray, List.set_cons_zero, List.set_cons_succ]))
                        (refine wpAnyT_take (i := 11) (v := ?_) rfl (by as_aux_lemma => kernel_rfl) (by as_aux_lemma => kernel_rfl) (by as_aux_lemma => kernel_rfl) (by as_aux_lemma => kernel_rfl) (fun _ _ _ h => h) (Or.inl ⟨by rfl, ?_⟩) (by assumption) ?_; rotate_left; ((intro wS hSw; (try dsimp only at hSw); (try simp only [List.getElem_toArray, List.getElem_cons_zero, List.getElem_cons_succ]); go_simp); (try with_reducible rfl)); (try simp only [Act.put, List.getElem_toArray, List.getElem_cons_zero, List.getElem_cons_succ, List.setIfInBounds_toArray, List.set_cons_zero, List.set_cons_succ]))
                        (refine wpAnyT_take (i := 12) (v := ?_) rfl (by as_aux_lemma => kernel_rfl) (by as_aux_lemma => kernel_rfl) (by as_aux_lemma => kernel_rfl) (by as_aux_lemma => kernel_rfl) (fun _ _ _ h => h) (Or.inl ⟨by rfl, ?_⟩) (by assumption) ?_; rotate_left; ((intro wS hSw; (try dsimp only at hSw); (try simp only [List.getElem_toArray, List.getElem_cons_zero, List.getElem_cons_succ]); go_simp); (try with_reducible rfl)); (try simp only [Act.put, List.getElem_toArray, List.getElem_cons_zero, List.getElem_cons_succ, List.setIfInBounds_toArray, List.set_cons_zero, List.set_cons_succ]))
                        refine wpAnyT_all (rs := [4, 13]) (by as_aux_lemma => kernel_rfl) (by decide) (AllT.consS rfl (fun K hK => ?_) (AllT.consS rfl (fun K hK => ?_) AllT.nil))
                        · go_simp
                          (refine hK.out _ _ (keep12 (show Ext w7 _ by (· repeat (first | (with_reducible assumption) | exact Ext.refl _ | refine Ext.alloc ?_ _ | refine Ext.drew ?_ | refine Ext.drewN ?_ _ | (apply Ext.snart; (with_reducible assumption))))) HS7.out) (fun hS => ?_); clear hK K)
                          refine wpAnyT_all (rs := [13]) (by as_aux_lemma => kernel_rfl) (by decide) (AllT.consS rfl (fun K hK => ?_) AllT.nil)
                          go_simp
                          (refine hK.out _ _ (keep12 (show Ext w7 _ by (· repeat (first | (with_reducible assumption) | exact Ext.refl _ | refine Ext.alloc ?_ _ | refine Ext.drew ?_ | refine Ext.drewN ?_ _ | (apply Ext.snart; (with_reducible assumption))))) HS7.out) (fun hS => ?_); clear hK K)
                          refine wpAnyT_all (rs := [14]) (by as_aux_lemma => kernel_rfl) (by decide) (AllT.consF rfl rfl (fun K hK => ?_) AllT.nil)
                          go_simp
                          go_at_call 26
                          refine Calls.mono (SameEntries_any _ (fun _ => True) (fun _ => True) _ _ [((m : Int), es, (i : Int), et, ev, efs)] [((m : Int), es, (i : Int), et, ev, efs)] ?_ ?_) ?_
                          · refine RdS.ofRow (g := w7.heap.size) (S := fun _ => True) (fv := .slice fa5 efs.length fc5) ?_ (Rdr.ext HR5.out (by (· repeat (first | (with_reducible assumption) | exact Ext.refl _ | refine Ext.alloc ?_ _ | refine Ext.drew ?_ | refine Ext.drewN ?_ _ | (apply Ext.snart; (with_reducible assumption))))))
                            exact alloc_two_a w7 _ _ _
                          · refine RdS.ofRow (g := w7.heap.size + 1) (S := fun _ => True) (fv := .slice fa6 efs.length fc6) ?_ (Rdr.ext HR6.out (by (· repeat (first | (with_reducible assumption) | exact Ext.refl _ | refine Ext.alloc ?_ _ | refine Ext.drew ?_ | refine Ext.drewN ?_ _ | (apply Ext.snart; (with_reducible assumption))))))
                            exact alloc_two_b w7 _ _ _
                          rintro e w' ⟨rfl, hx'⟩
                          rw [decide_eq_true (rfl : [((m : Int), es, (i : Int), et, ev, efs)] = [((m : Int), es, (i : Int), et, ev, efs)])]
                          (refine hK.out _ _ ?_; clear hK K)
                          refine wpAnyT_all (rs := [15]) (by as_aux_lemma => kernel_rfl) (by decide) (AllT.consF rfl rfl (fun K hK => ?_) AllT.nil)
                          go_simp
                          (refine hK.out _ _ ?_; clear hK K)
                          refine wpAnyT_done (by as_aux_lemma => kernel_rfl) (NoPanic.normal ?_) _
                          go_wp2_with fail
                          go_meet
                          exact ⟨rfl, (show Ext w7 _ by (· repeat (first | (with_reducible assumption) | exact Ext.refl _ | refine Ext.alloc ?_ _ | refine Ext.drew ?_ | refine Ext.drewN ?_ _ | (apply Ext.snart; (with_reducible assumption))))).trans hx'⟩
                        · go_simp
                          (refine hK.out _ _ (keep12 (show Ext w7 _ by (· repeat (first | (with_reducible assumption) | exact Ext.refl _ | refine Ext.alloc ?_ _ | refine Ext.drew ?_ | refine Ext.drewN ?_ _ | (apply Ext.snart; (with_reducible assumption))))) HS7.out) (fun hS => ?_); clear hK K)
                          refine wpAnyT_all (rs := [4]) (by as_aux_lemma => kernel_rfl) (by decide) (AllT.consS rfl (fun K hK => ?_) AllT.nil)
                          go_simp
                          (refine hK.out _ _ (keep12 (show Ext w7 _ by (· repeat (first | (with_reducible assumption) | exact Ext.refl _ | refine Ext.alloc ?_ _ | refine Ext.drew ?_ | refine Ext.drewN ?_ _ | (apply Ext.snart; (with_reducible assumption))))) HS7.out) (fun hS => ?_); clear hK K)
                          refine wpAnyT_all (rs := [14]) (by as_aux_lemma => kernel_rfl) (by decide) (AllT.consF rfl rfl (fun K hK => ?_) AllT.nil)
                          go_simp
                          go_at_call 26
                          refine Calls.mono (SameEntries_any _ (fun _ => True) (fun _ => True) _ _ [((m : Int), es, (i : Int), et, ev, efs)] [((m : Int), es, (i : Int), et, ev, efs)] ?_ ?_) ?_
                          · refine RdS.ofRow (g := w7.heap.size + 1) (S := fun _ => True) (fv := .slice fa5 efs.length fc5) ?_ (Rdr.ext HR5.out (by (· repeat (first | (with_reducible assumption) | exact Ext.refl _ | refine Ext.alloc ?_ _ | refine Ext.drew ?_ | refine Ext.drewN ?_ _ | (apply Ext.snart; (with_reducible assumption))))))
                            exact alloc_two_b w7 _ _ _
                          · refine RdS.ofRow (g := w7.heap.size) (S := fun _ => True) (fv := .slice fa6 efs.length fc6) ?_ (Rdr.ext HR6.out (by (· repeat (first | (with_reducible assumption) | exact Ext.refl _ | refine Ext.alloc ?_ _ | refine Ext.drew ?_ | refine Ext.drewN ?_ _ | (apply Ext.snart; (with_reducible assumption))))))
                            exact alloc_two_a w7 _ _ _
                          rintro e w' ⟨rfl, hx'⟩
                          rw [decide_eq_true (rfl : [((m : Int), es, (i : Int), et, ev, efs)] = [((m : Int), es, (i : Int), et, ev, efs)])]
                          (refine hK.out _ _ ?_; clear hK K)
                          refine wpAnyT_all (rs := [15]) (by as_aux_lemma => kernel_rfl) (by decide) (AllT.consF rfl rfl (fun K hK => ?_) AllT.nil)
                          go_simp
                          (refine hK.out _ _ ?_; clear hK K)
                          refine wpAnyT_done (by as_aux_lemma => kernel_rfl) (NoPanic.normal ?_) _
                          go_wp2_with fail
                          go_meet
                          exact ⟨rfl, (show Ext w7 _ by (· repeat (first | (with_reducible assumption) | exact Ext.refl _ | refine Ext.alloc ?_ _ | refine Ext.drew ?_ | refine Ext.drewN ?_ _ | (apply Ext.snart; (with_reducible assumption))))).trans hx'⟩
                      case rest =>
                        obtain ⟨rfl, hx32⟩ := hcut
                        go_wp2_with fail
                        go_roundw
                        case rel => exact ⟨i + 1, by go_num, by go_num, by omega, HXI.out.trans hx32⟩
                        case measure => simp [intOf]; omega
                  · obtain rfl : i = L.length := by omega
                    go_wp2_with fail
                    go_roundw
                    case rel => exact ⟨k + 1, by rw [HSUM.out, HLL.out], by go_num, by omega, HXO.out.trans (HX25.out.trans HXI.out)⟩
                    case measure => simp [intOf]; omega
            · obtain rfl : k = nl.length := by omega
              have hsum : ((nl.take nl.length).map fun s => (x.str s).length).sum = x.all.length := by rw [List.take_length]; exact HTOT.out
              rw [hsum]
              clear hsum
              go_wp2_with fail
              go_ret
              exact ⟨rfl, HX.out.trans (HXN.out.trans HXO.out)⟩
end Go.Proofs.Ythobhkmphjnlaaa
