/- journal: within; a crash behind a Commit; arrays of 44 strings; Put; all blocks. -/
import Derived.Test.YtgbiffpnfpdcoaaJ6
import Derived.Test.YtgbiffpnfpdcoaaOne

/- cartularylaw04.within, walked. -/
namespace Go.Proofs.Ytgbiffpnfpdcoaa
open Go.RowKit Go.Maps
set_option linter.unusedVariables false
set_option linter.unusedSimpArgs false

def oneF (p : One) : JW := ((pickF p.1 44 : Nat), blockL p.2.1 p.2.2)
def withinF (l : List One) : List JW := (l.take 16).map oneF
theorem within_in (l : List One) : WsIn 64 (withinF l) := by
  refine ⟨⟨by simp [withinF]; omega, fun p hp => ?_⟩, fun p hp => ?_⟩
  all_goals
    obtain ⟨q, -, rfl⟩ := List.mem_map.1 hp
    have := pickF_lt q.1 44 (by omega)
    show _
  · exact ⟨by show (0 : Int) ≤ ((pickF q.1 44 : Nat) : Int); omega, by show ((pickF q.1 44 : Nat) : Int) ≤ 1000000; omega, blockL_len _ _⟩
  · show ((pickF q.1 44 : Nat) : Int) < ((64 : Nat) : Int) - 20; omega

theorem step_appWr {w : World} {ops : Array Oper} {o : Oper} {a : Act} {K : Act → World → Prop} {Q : Exit → Act → World → Prop} {E : Prop} (hgd : o.guard = none) (s x : Operand)
    (ho : o.op = .call { callee := .builtin .append, args := #[s, x], argTypes := #[83, 83] }) (base : Nat) (S : Nat → Prop)
    (v : Value) (xs : List JW) (hs : a.eval s = v) (happ : OwnS rWr 82 w base S v xs)
    (n : Int) (u : Value) (b : List UInt8) (gb : Nat) (hx : a.eval x = .slice (some ⟨gb, 0, none⟩) 1 1)
    (hrow : w.heap[gb]? = some (.cells #[.int .i64 n, u] 82 (0, 0))) (hone : u.oneCell' = true) (hrd : rWr.rd w S [.int .i64 n, u] (n, b)) (hSlt : ∀ k, S k → k < w.heap.size) (hl : xs.length ≤ 1000) (hbase : base ≤ w.heap.size)
    (h : ∀ v' w', OwnS rWr 82 w' base S v' (xs ++ [(n, b)]) → w.grownBy w' v.ownBlock → K (a.put o.dst v') w') :
    if Region.wanted o (yielded ops a.tmps) = true then Oper.wp Try.prog o a w K Q else E := by
  have hw : Region.wanted o (yielded ops a.tmps) = true := by simp [Region.wanted, hgd]
  rw [if_pos hw]
  refine wp_appS rWr s x 83 83 82 (.agg #[.int .i64 0, .slice none 0 0]) 32 ho Try.underlying83 infoWr rfl base S v xs hs happ _ [([.int .i64 n, u], (n, b))] hx ?_ ?_ hSlt (by simp; omega) (by simp; omega) hbase ?_
  · exact src_row Try.underlying83 hrow (fun u' hu => by
      rcases List.mem_cons.1 hu with rfl | hu
      · rfl
      · rcases List.mem_cons.1 hu with rfl | hu
        · exact hone
        · cases hu) rfl
  · intro p hp
    obtain rfl := List.mem_singleton.1 hp
    exact hrd
  · intro v' w' k1 k2 k3
    exact h v' w' k1 k2

set_option maxRecDepth 100000 in
set_option maxHeartbeats 2000000 in
theorem within_any (w : World) (S0 : Nat → Prop) (v : Value) (l : List One) (hv : RdS rOne w S0 v l) :
    Calls Try.prog 52 #[v] w fun e w' => ∃ v', e = .returned v' ∧ RdS rWr w' (fun k => w.heap.size ≤ k) v' (withinF l) ∧ Ext w w' := by
  obtain ⟨va, vc, rfl, hc1, hc2⟩ := hv.slice
  have HV := hid hv
  clear hv
  go_enter Try.func52, Try.ntmps52
  go_wp2_with fail
  go_loopw [3, 4] (fun u3 u4 wr => ∃ (i : Nat) (S : Nat → Prop) (a3 : Option Addr) (c3 : Nat), u4 = .int .i64 i ∧ i ≤ l.length ∧ i ≤ 16 ∧ u3 = .slice a3 i c3 ∧ OwnS rWr 82 wr w.heap.size S (.slice a3 i c3) (withinF (l.take i)) ∧ (∀ k, S k → w.heap.size ≤ k ∧ k < wr.heap.size) ∧ Ext w wr) (fun _ u4 _ => 16 - (intOf u4).toNat)
  case atStart => exact ⟨0, fun _ => False, none, 0, rfl, Nat.zero_le _, Nat.zero_le _, rfl, OwnS.nil _ _ _ _ _, fun _ h => h.elim, Ext.refl _⟩
  case round =>
    obtain ⟨i, S, a3, c3, rfl, hi, hi16, rfl, how, hSl, hx⟩ := hrel
    have HOW := hid how
    have HSL := hid hSl
    have HX := hid hx
    have hz := hx.size
    by_cases hlt : i < l.length ∧ i < 16
    · obtain ⟨hlt1, hlt2⟩ := hlt
      have i1 : (i : Int) < (l.length : Int) := by omega
      have i2 : (i : Int) < 16 := by omega
      obtain ⟨gl, ol, cl, e, hgl, -, d0, d1, d2, b1, b2⟩ := (HV.out.ext hx).atOne i hlt1
      simp only [Value.slice.injEq] at e
      obtain ⟨rfl, -, rfl⟩ := e
      have htk : withinF (l.take (i + 1)) = withinF (l.take i) ++ [oneF l[i]] := by
        unfold withinF
        rw [List.take_take, List.take_take, show min 16 (i + 1) = i + 1 by omega, show min 16 i = i by omega, ← List.take_append_getElem hlt1, List.map_append]
        rfl
      have HTK := hid htk
      have hwl : (withinF (l.take i)).length = i := by simp [withinF]; omega
      have HWL := hid hwl
      generalize l[i] = one at d0 d1 d2 b1 b2 HTK
      obtain ⟨on, ofl, oh⟩ := one
      dsimp only at d0 d1 d2 b1 b2
      have hw1 : IntKind.i64.wrap ((i : Int) + 1) = (i : Int) + 1 := by rw [IntKind.wrap_i64]; omega
      clear how hSl hx htk hwl
      go_wp2_with fail
      have hxd : Ext wr wr.drew := by (· repeat (first | (with_reducible assumption) | exact Ext.refl _ | refine Ext.alloc ?_ _ | refine Ext.drew ?_ | refine Ext.drewN ?_ _ | (apply Ext.snart; (with_reducible assumption))))
      refine wp_region_T (fun w' => w'.cell? ⟨gl, ol + i * 3, none⟩ = some (.int .i64 on) ∧ w'.cell? ⟨gl, ol + i * 3 + 1, none⟩ = some (.int .i64 ofl) ∧ w'.cell? ⟨gl, ol + i * 3 + 2, none⟩ = some (.string oh)) [20, 21] (by kernel_rfl) ⟨Ext.cellS hxd d0, Ext.cellS hxd d1, Ext.cellS hxd d2⟩ (fun hS => ?_)
      (refine wpAnyT_take (i := 0) (v := ?_) rfl (by kernel_rfl) (by kernel_rfl) (by kernel_rfl) (by kernel_rfl) (fun _ _ _ h => h) (Or.inl ⟨by rfl, ?_⟩) (by assumption) ?_; rotate_left; ((intro wS hSw; (try dsimp only at hSw); (try simp only [List.getElem_toArray, List.getElem_cons_zero, List.getElem_cons_succ]); go_simp); (try with_reducible rfl)); (try simp only [Act.put, List.getElem_toArray, List.getElem_cons_zero, List.getElem_cons_succ, List.setIfInBounds_toArray, List.set_cons_zero, List.set_cons_succ]))
      (refine wpAnyT_take (i := 1) (v := ?_) rfl (by kernel_rfl) (by kernel_rfl) (by kernel_rfl) (by kernel_rfl) (fun _ _ _ h => h) (Or.inl ⟨by rfl, ?_⟩) (by assumption) ?_; rotate_left; ((intro wS hSw; (try dsimp only at hSw); (try simp only [List.getElem_toArray, List.getElem_cons_zero, List.getElem_cons_succ]); go_simp); (try with_reducible rfl)); (try simp only [Act.put, List.getElem_toArray, List.getElem_cons_zero, List.getElem_cons_succ, List.setIfInBounds_toArray, List.set_cons_zero, List.set_cons_succ]))
      (refine wpAnyT_take (i := 2) (v := ?_) rfl (by kernel_rfl) (by kernel_rfl) (by kernel_rfl) (by kernel_rfl) (fun _ _ _ h => h) (Or.inl ⟨by rfl, ?_⟩) (by assumption) ?_; rotate_left; ((intro wS hSw; (try dsimp only at hSw); (try simp only [List.getElem_toArray, List.getElem_cons_zero, List.getElem_cons_succ]); go_simp); (try with_reducible rfl)); (try simp only [Act.put, List.getElem_toArray, List.getElem_cons_zero, List.getElem_cons_succ, List.setIfInBounds_toArray, List.set_cons_zero, List.set_cons_succ]))
      (refine wpAnyT_take (i := 3) (v := ?_) rfl (by kernel_rfl) (by kernel_rfl) (by kernel_rfl) (by kernel_rfl) (fun _ _ _ h => h) (Or.inl ⟨by rfl, ?_⟩) (by assumption) ?_; rotate_left; ((intro wS hSw; (try dsimp only at hSw); (try simp only [List.getElem_toArray, List.getElem_cons_zero, List.getElem_cons_succ]); go_simp); (try with_reducible rfl)); (try simp only [Act.put, List.getElem_toArray, List.getElem_cons_zero, List.getElem_cons_succ, List.setIfInBounds_toArray, List.set_cons_zero, List.set_cons_succ]))
      (refine wpAnyT_take (i := 4) (v := ?_) rfl (by kernel_rfl) (by kernel_rfl) (by kernel_rfl) (by kernel_rfl) (fun _ _ _ h => h) (Or.inl ⟨by rfl, ?_⟩) (by assumption) ?_; rotate_left; ((intro wS hSw; (try dsimp only at hSw); (try simp only [List.getElem_toArray, List.getElem_cons_zero, List.getElem_cons_succ]); go_simp); (try with_reducible rfl)); (try simp only [Act.put, List.getElem_toArray, List.getElem_cons_zero, List.getElem_cons_succ, List.setIfInBounds_toArray, List.set_cons_zero, List.set_cons_succ]))
      (refine wpAnyT_take (i := 5) (v := ?_) rfl (by kernel_rfl) (by kernel_rfl) (by kernel_rfl) (by kernel_rfl) (fun _ _ _ h => h) (Or.inl ⟨by rfl, ?_⟩) (by assumption) ?_; rotate_left; ((intro wS hSw; (try dsimp only at hSw); (try simp only [List.getElem_toArray, List.getElem_cons_zero, List.getElem_cons_succ]); go_simp); (try with_reducible rfl)); (try simp only [Act.put, List.getElem_toArray, List.getElem_cons_zero, List.getElem_cons_succ, List.setIfInBounds_toArray, List.set_cons_zero, List.set_cons_succ]))
      (refine wpAnyT_take (i := 7) (v := ?_) rfl (by kernel_rfl) (by kernel_rfl) (by kernel_rfl) (by kernel_rfl) (fun _ _ _ h => h) (Or.inl ⟨by rfl, ?_⟩) (by assumption) ?_; rotate_left; ((intro wS hSw; (try dsimp only at hSw); (try simp only [List.getElem_toArray, List.getElem_cons_zero, List.getElem_cons_succ]); go_simp); (try with_reducible rfl)); (try simp only [Act.put, List.getElem_toArray, List.getElem_cons_zero, List.getElem_cons_succ, List.setIfInBounds_toArray, List.set_cons_zero, List.set_cons_succ]))
      (refine wpAnyT_take (i := 8) (v := ?_) rfl (by kernel_rfl) (by kernel_rfl) (by kernel_rfl) (by kernel_rfl) (fun _ _ _ h => h) (Or.inl ⟨by rfl, ?_⟩) (by assumption) ?_; rotate_left; ((intro wS hSw; (try dsimp only at hSw); (try simp only [List.getElem_toArray, List.getElem_cons_zero, List.getElem_cons_succ]); go_simp); (try with_reducible rfl)); (try simp only [Act.put, List.getElem_toArray, List.getElem_cons_zero, List.getElem_cons_succ, List.setIfInBounds_toArray, List.set_cons_zero, List.set_cons_succ]))
      (refine wpAnyT_take (i := 9) (v := ?_) rfl (by kernel_rfl) (by kernel_rfl) (by kernel_rfl) (by kernel_rfl) (fun _ _ _ h => h) (Or.inl ⟨by rfl, ?_⟩) (by assumption) ?_; rotate_left; ((intro wS hSw; (try dsimp only at hSw); (try simp only [List.getElem_toArray, List.getElem_cons_zero, List.getElem_cons_succ]); go_simp); (try with_reducible rfl)); (try simp only [Act.put, List.getElem_toArray, List.getElem_cons_zero, List.getElem_cons_succ, List.setIfInBounds_toArray, List.set_cons_zero, List.set_cons_succ]))
      (refine wpAnyT_take (i := 10) (v := ?_) rfl (by kernel_rfl) (by kernel_rfl) (by kernel_rfl) (by kernel_rfl) (fun _ _ _ h => h) (Or.inl ⟨by rfl, ?_⟩) (by assumption) ?_; rotate_left; ((intro wS hSw; (try dsimp only at hSw); (try simp only [List.getElem_toArray, List.getElem_cons_zero, List.getElem_cons_succ]); go_simp); (try with_reducible rfl)); (try simp only [Act.put, List.getElem_toArray, List.getElem_cons_zero, List.getElem_cons_succ, List.setIfInBounds_toArray, List.set_cons_zero, List.set_cons_succ]))
      (refine wpAnyT_take (i := 11) (v := ?_) rfl (by kernel_rfl) (by kernel_rfl) (by kernel_rfl) (by kernel_rfl) (fun _ _ _ h => h) (Or.inl ⟨by rfl, ?_⟩) (by assumption) ?_; rotate_left; ((intro wS hSw; (try dsimp only at hSw); (try simp only [List.getElem_toArray, List.getElem_cons_zero, List.getElem_cons_succ]); go_simp); (try with_reducible rfl)); (try simp only [Act.put, List.getElem_toArray, List.getElem_cons_zero, List.getElem_cons_succ, List.setIfInBounds_toArray, List.set_cons_zero, List.set_cons_succ]))
      (refine wpAnyT_take (i := 12) (v := ?_) rfl (by kernel_rfl) (by kernel_rfl) (by kernel_rfl) (by kernel_rfl) (fun _ _ _ h => h) (Or.inl ⟨by rfl, ?_⟩) (by assumption) ?_; rotate_left; ((intro wS hSw; (try dsimp only at hSw); (try simp only [List.getElem_toArray, List.getElem_cons_zero, List.getElem_cons_succ]); go_simp); (try with_reducible rfl)); (try simp only [Act.put, List.getElem_toArray, List.getElem_cons_zero, List.getElem_cons_succ, List.setIfInBounds_toArray, List.set_cons_zero, List.set_cons_succ]))
      (refine wpAnyT_take (i := 13) (v := ?_) rfl (by kernel_rfl) (by kernel_rfl) (by kernel_rfl) (by kernel_rfl) (fun _ _ _ h => h) (Or.inl ⟨by rfl, ?_⟩) (by assumption) ?_; rotate_left; ((intro wS hSw; (try dsimp only at hSw); (try simp only [List.getElem_toArray, List.getElem_cons_zero, List.getElem_cons_succ]); go_simp); (try with_reducible rfl)); (try simp only [Act.put, List.getElem_toArray, List.getElem_cons_zero, List.getElem_cons_succ, List.setIfInBounds_toArray, List.set_cons_zero, List.set_cons_succ]))
      (refine wpAnyT_take (i := 14) (v := ?_) rfl (by kernel_rfl) (by kernel_rfl) (by kernel_rfl) (by kernel_rfl) (fun _ _ _ h => h) (Or.inl ⟨by rfl, ?_⟩) (by assumption) ?_; rotate_left; ((intro wS hSw; (try dsimp only at hSw); (try simp only [List.getElem_toArray, List.getElem_cons_zero, List.getElem_cons_succ]); go_simp); (try with_reducible rfl)); (try simp only [Act.put, List.getElem_toArray, List.getElem_cons_zero, List.getElem_cons_succ, List.setIfInBounds_toArray, List.set_cons_zero, List.set_cons_succ]))
      (refine wpAnyT_take (i := 15) (v := ?_) rfl (by kernel_rfl) (by kernel_rfl) (by kernel_rfl) (by kernel_rfl) (fun _ _ _ h => h) (Or.inl ⟨by rfl, ?_⟩) (by assumption) ?_; rotate_left; ((intro wS hSw; (try dsimp only at hSw); (try simp only [List.getElem_toArray, List.getElem_cons_zero, List.getElem_cons_succ]); go_simp); (try with_reducible rfl)); (try simp only [Act.put, List.getElem_toArray, List.getElem_cons_zero, List.getElem_cons_succ, List.setIfInBounds_toArray, List.set_cons_zero, List.set_cons_succ]))
      (refine wpAnyT_take (i := 16) (v := ?_) rfl (by kernel_rfl) (by kernel_rfl) (by kernel_rfl) (by kernel_rfl) (fun _ _ _ h => h) (Or.inl ⟨by rfl, ?_⟩) (by assumption) ?_; rotate_left; ((intro wS hSw; (try dsimp only at hSw); (try simp only [List.getElem_toArray, List.getElem_cons_zero, List.getElem_cons_succ]); go_simp); (try with_reducible rfl)); (try simp only [Act.put, List.getElem_toArray, List.getElem_cons_zero, List.getElem_cons_succ, List.setIfInBounds_toArray, List.set_cons_zero, List.set_cons_succ]))
      refine wpAnyT_all (rs := [6]) (by kernel_rfl) (by decide) (AllT.consS rfl (fun K hK => ?_) AllT.nil)
      go_simp
      go_at_call 26
      refine (Pick_any _ on 44 b1 (by omega) (by omega)).mono ?_
      rintro e w' ⟨rfl, rfl⟩
      (refine hK.out _ _ (hS) (fun hS => ?_); clear hK K)
      refine wpAnyT_all (rs := [17]) (by kernel_rfl) (by decide) (AllT.consS rfl (fun K hK => ?_) AllT.nil)
      go_simp
      go_at_call 28
      refine (Block_any wr.drew ofl b2 oh).mono ?_
      rintro e w2 ⟨rfl, hr2, hx2⟩
      have hxb : Ext wr w2 := hxd.trans hx2
      have hrd2 : RdB w2 (.slice (some ⟨wr.heap.size, 0, none⟩) 512 512) (blockL ofl oh) := row_rdB hr2 (blockL_len _ _)
      have hk2 : wr.heap.size < w2.heap.size := (Array.getElem?_eq_some_iff.1 hr2).1
      clear hr2 hx2
      (refine hK.out _ _ (⟨Ext.cellS hxb d0, Ext.cellS hxb d1, Ext.cellS hxb d2⟩) (fun hS => ?_); clear hK K)
      (refine wpAnyT_take (i := 18) (v := ?_) rfl (by kernel_rfl) (by kernel_rfl) (by kernel_rfl) (by kernel_rfl) (fun _ _ _ h => h) (Or.inl ⟨by rfl, ?_⟩) (by assumption) ?_; rotate_left; ((intro wS hSw; (try dsimp only at hSw); (try simp only [List.getElem_toArray, List.getElem_cons_zero, List.getElem_cons_succ]); go_simp); (try with_reducible rfl)); (try simp only [Act.put, List.getElem_toArray, List.getElem_cons_zero, List.getElem_cons_succ, List.setIfInBounds_toArray, List.set_cons_zero, List.set_cons_succ]))
      refine wpAnyT_all (rs := [19]) (by kernel_rfl) (by decide) (AllT.consS rfl (fun K hK => ?_) AllT.nil)
      go_simp
      obtain ⟨w3, hw3⟩ : ∃ w3, w3 = w2.alloc (.cells #[.int .i64 ((pickF on 44 : Nat) : Int), .slice (some ⟨wr.heap.size, 0, none⟩) 512 512] 82) := ⟨_, rfl⟩
      rw [← hw3]
      have hx3 : Ext w2 w3 := by rw [hw3]; exact (Ext.refl _).alloc _
      have hr3 : w3.heap[w2.heap.size]? = some (.cells #[.int .i64 ((pickF on 44 : Nat) : Int), .slice (some ⟨wr.heap.size, 0, none⟩) 512 512] 82 (0, 0)) := by rw [hw3]; exact heap_alloc_new _ _
      have hxc : Ext wr w3 := hxb.trans hx3
      have hrd3 := hrd2.ext hx3
      have hz3 := hx3.size
      have hz2 := hxb.size
      have hpl := pickF_lt on 44 (by omega)
      clear hw3 hS
      (refine hK.out _ _ (⟨Ext.cellS hxc d0, Ext.cellS hxc d1, Ext.cellS hxc d2⟩) (fun hS => ?_); clear hK K)
      clear hS
      refine wpAnyT_all (rs := [20]) (by kernel_rfl) (by decide) (AllT.consF rfl rfl (fun K hK => ?_) AllT.nil)
      refine step_appWr rfl _ _ rfl w.heap.size (fun j => S j ∨ j = wr.heap.size) (.slice a3 i c3) (withinF (l.take i)) rfl ?_ ((pickF on 44 : Nat) : Int) (.slice (some ⟨wr.heap.size, 0, none⟩) 512 512) (blockL ofl oh) w2.heap.size rfl hr3 rfl ?_ ?_ ?_ ?_ ?_
      · refine (HOW.out.ext hxc).widen (fun j hj _ => .inl hj) (fun j hj hSj => ?_)
        have hlt' := HOW.out.lt j hj
        rcases hSj with h | h
        · obtain ⟨gs, _, _, h3, _⟩ := HOW.out
          exact h3 j hj h
        · omega
      · refine ⟨[.int .i64 ((pickF on 44 : Nat) : Int)], [.slice (some ⟨wr.heap.size, 0, none⟩) 512 512], rfl, ⟨rfl, ?_⟩, _, rfl, hrd3, fun _ j hj => .inr ?_⟩
        · show (-9223372036854775808 : Int) ≤ ((pickF on 44 : Nat) : Int) ∧ ((pickF on 44 : Nat) : Int) ≤ 9223372036854775807
          omega
        · simpa [Value.ownBlock] using hj.symm
      · intro j hj
        rcases hj with h | h
        · have := (HSL.out j h).2; omega
        · omega
      · rw [HWL.out]; omega
      · omega
      intro v5 w5 k1 k2
      rw [show withinF (l.take i) ++ [(((pickF on 44 : Nat) : Int), blockL ofl oh)] = withinF (l.take (i + 1)) from HTK.out.symm] at k1
      have hwl5 : (withinF (l.take (i + 1))).length = i + 1 := by simp [withinF]; omega
      obtain ⟨a5, c5, rfl⟩ := k1.slice
      rw [hwl5] at k1 ⊢
      have HK1 := hid k1
      have hx5 : Ext w w5 := (HX.out.trans hxc).grown k2 (fun j hj => (HOW.out.lt j hj).1)
      have HX5 := hid hx5
      have hz5 := k2.size
      clear k1 k2 hx5 hxc hxb hx3 hr3 hrd2 hrd3
      (refine hK.out _ _ ?_; clear hK K)
      refine wpAnyT_all (rs := [21]) (by kernel_rfl) (by decide) (AllT.consF rfl rfl (fun K hK => ?_) AllT.nil)
      go_simp
      (refine hK.out _ _ ?_; clear hK K)
      refine wpAnyT_done (by kernel_rfl) (NoPanic.normal ?_) _
      go_wp2_with fail
      exact ⟨⟨i + 1, fun j => S j ∨ j = wr.heap.size, a5, c5, rfl, by omega, by omega, rfl, HK1.out, fun j hj => by
        rcases hj with h | h
        · have := HSL.out j h; omega
        · omega, HX5.out⟩, by simp only [intOf]; omega⟩
    · have hend : withinF (l.take i) = withinF l := by
        unfold withinF
        rw [List.take_take]
        congr 1
        rcases Nat.lt_or_ge i 16 with h | h
        · have : i = l.length := by omega
          rw [this, List.take_of_length_le (by omega), List.take_of_length_le (by omega)]
        · rw [show min 16 i = 16 by omega]
      have hfin := (how.rd.mono (S' := fun k => w.heap.size ≤ k) fun k hk _ => by
        rcases hk with h | h
        · exact (hSl k h).1
        · exact (how.lt k h).1)
      rw [hend] at hfin
      have HFIN := hid hfin
      have hcs : ¬ (i : Int) < (l.length : Int) ∨ ((i : Int) < (l.length : Int) ∧ ¬ (i : Int) < 16) := by omega
      clear how hSl hx hfin hend
      rcases hcs with h1 | ⟨h1, h2⟩
      all_goals
        go_wp2_with fail
        go_ret
        exact ⟨_, rfl, HFIN.out, HX.out⟩
end Go.Proofs.Ytgbiffpnfpdcoaa

/- journal: Commit and what a crash behind it may leave, in one; Fuse. -/
namespace Go.Proofs.Ytgbiffpnfpdcoaa
open Go.RowKit Go.Maps
set_option linter.unusedVariables false
set_option linter.unusedSimpArgs false


theorem LogAt.kept {w W W' : World} {g : Nat} {ρ : Nat → Option DRol} {N : Nat} {d : Dv} {gl L n : Nat} {H : Int → Bk} (h : LogAt w W g ρ N d gl L n H) (hk : Keep (fun k => (ρ k ≠ none ∨ k < w.heap.size) ∨ k = gl) W W') : LogAt w W' g ρ N d gl L n H :=
  { h with hm := h.hm.kept (hk.mono fun k hk _ => .inl hk), log := h.log.keep hk (.inr rfl) }
theorem LFuse {w W : World} {g : Nat} {ρ : Nat → Option DRol} {N : Nat} {d : Dv} {gl L n : Nat} {H : Int → Bk} (h : LogAt w W g ρ N d gl L n H) (k : Nat) (hk : k ≤ 1000000) :
    Calls Try.prog 34 #[.pointer (some ⟨g, 0, none⟩), .int .i64 k] W fun e W' => e = .returned (.int .i64 0) ∧ ∃ d', LogAt w W' g ρ N d' gl L n H ∧ Keep (fun j => j ≠ g) W W' := by
  refine (Fuse_any h.hm.dv (k : Int) (by omega)).mono ?_
  rintro e W' ⟨rfl, h1, h2⟩
  have h3 := h.hm.hd h1 h2
  have e1 : fuseF d k = (0, { d with fuse := k }) := by
    unfold fuseF
    rw [if_neg (by rw [h.up.up]; simp), show max (k : Int) (-1) = k by omega]
  rw [e1] at h3 ⊢
  have hg : gl ≠ g := fun e => by
    obtain ⟨_, _, _, hh⟩ := h.hm.dv
    have := h.rol; rw [e, hh.rg] at this; cases this
  exact ⟨rfl, _, ⟨h3, ⟨h.up.up, by show (-1 : Int) ≤ (k : Int); omega, h.up.rng⟩, h.st, h.len, h.log.keep h2 hg, h.low, h.rol, h.sp⟩, h2⟩

/-- some log lies there: its homes are to be G -/
def Lies (L N : Nat) (s : Int → Bk) (G : (Int → Bk) → Prop) : Prop := ∃ n' H0 res, n' ≤ N ∧ St L s n' H0 res ∧ WsIn L (res.getD []) ∧ G (Hn H0 res)
theorem LCommitI {w W : World} {g : Nat} {ρ : Nat → Option DRol} {N : Nat} {d : Dv} {gl L n : Nat} {H : Int → Bk} (h : LogAt w W g ρ N d gl L n H) (hN : N ≤ 999700000) (hl : 64 ≤ L ∧ L ≤ 1000) (hn : n ≤ 100000000) (v : Value) (ws : List JW) (hv : RdS rWr W (fun k => ρ k = none ∧ k ≠ gl) v ws) (hin : WsIn L ws) :
    Calls Try.prog 50 #[.pointer (some ⟨gl, 0, none⟩), v] W fun e W' => ∃ (ok : Bool) (ρ' : Nat → Option DRol) (d' : Dv), e = .returned (.int .i64 (if ok = true then 0 else 2)) ∧ d'.down = !ok ∧ RolNew ρ ρ' W ∧ Keep (fun k => ρ k = none ∧ k ≠ gl) W W' ∧ Mine w W' g ρ' (N + 500) d' ∧ d'.safe.length = L ∧
      ∀ s, Img d' s → Lies L (n + 1) s fun G => (ok = false ∧ G = H) ∨ G = wcurF 0 ws 0 H := by
  refine (LCommitF h hN hl hn v ws hv hin).mono ?_
  rintro e W' ⟨ρ', d', h1, h2, ⟨rfl, h3, -⟩ | ⟨rfl, -, h3⟩⟩
  · refine ⟨true, ρ', d', rfl, h3.up.up, h1, h2, h3.hm, h3.len, fun s hs => ⟨n + 1, wcurF 0 ws 0 H, none, Nat.le_refl _, .inl ⟨rfl, ?_⟩, wsIn_nil L, .inr rfl⟩⟩
    exact h3.sp.cur hl.1 fun j a b => img_still h3.st hs j a (by rw [h3.len]; exact b)
  · refine ⟨false, ρ', d', rfl, h3.down, h1, h2, h3.hm, h3.len, fun s hs => ?_⟩
    rcases h3.img s hs with h4 | h4 | h4
    · exact ⟨n, H, none, by omega, .inl ⟨rfl, h4⟩, wsIn_nil L, .inl ⟨rfl, rfl⟩⟩
    · exact ⟨n, H, some ws, by omega, .inr ⟨ws, rfl, h4⟩, hin, .inr rfl⟩
    · exact ⟨n + 1, wcurF 0 ws 0 H, none, Nat.le_refl _, .inl ⟨rfl, h4⟩, wsIn_nil L, .inr rfl⟩
end Go.Proofs.Ytgbiffpnfpdcoaa

/- journal: arrays of 44 strings as the laws keep them. -/
namespace Go.Proofs.Ytgbiffpnfpdcoaa
open Go.RowKit Go.Maps
set_option linter.unusedVariables false
set_option linter.unusedSimpArgs false

/-- an array of strings -/
def arrL (f : Nat → List UInt8) : Array Value := ((List.range 44).map fun j => Value.string ⟨(f j).toArray⟩).toArray
theorem arr_get (f : Nat → List UInt8) (i : Nat) (h : i < 44) : (arrL f)[i]? = some (.string ⟨(f i).toArray⟩) := by
  unfold arrL; simp [h]
theorem arr_set (f : Nat → List UInt8) (i : Nat) (x : List UInt8) : (arrL f).setIfInBounds i (.string ⟨x.toArray⟩) = arrL (fun j => if j = i then x else f j) := by
  unfold arrL
  apply Array.ext_getElem?
  intro j
  rw [Array.getElem?_setIfInBounds]
  by_cases h : i = j
  · subst h
    by_cases h4 : i < 44
    · simp [h4]
    · simp [h4]
  · rw [if_neg h]
    by_cases h4 : j < 44
    · simp [h4, Ne.symm h]
    · simp [h4]
def upW (f : Nat → List UInt8) (ws : List JW) : Nat → List UInt8 := ws.foldl (fun f p => fun j => if j = p.1.toNat then p.2 else f j) f
theorem upW_wcur : ∀ (ws : List JW) (f : Nat → List UInt8) (H : Int → Bk) (i : Int), (∀ p ∈ ws, 0 ≤ p.1) → (∀ j : Nat, j < 44 → f j = H (20 + j)) → ∀ j : Nat, j < 44 → upW f ws j = wcurF 0 ws i H (20 + j)
  | [], f, H, i, _, h, j, hj => h j hj
  | p :: ps, f, H, i, hp, h, j, hj => by
    show upW (fun j => if j = p.1.toNat then p.2 else f j) ps j = wcurF 0 ps (i + 1) _ _
    refine upW_wcur ps _ _ (i + 1) (fun q hq => hp q (by simp [hq])) (fun k hk => ?_) j hj
    have h0 := hp p (by simp)
    show (if k = p.1.toNat then p.2 else f k) = if (20 + (k : Int)) = posF 0 p i then p.2 else H (20 + k)
    unfold posF
    rw [if_pos rfl]
    by_cases e : k = p.1.toNat
    · rw [if_pos e, if_pos (by omega)]
    · rw [if_neg e, if_neg (by omega)]; exact h k hk
theorem upW_snoc (f : Nat → List UInt8) (ws : List JW) (p : JW) : upW f (ws ++ [p]) = fun j => if j = p.1.toNat then p.2 else upW f ws j := by
  unfold upW; rw [List.foldl_append]; rfl

def cutTo (H : Int → Bk) (i : Nat) : Nat → List UInt8 := fun j => if j < i then H (20 + j) else []
theorem cutTo_next (H : Int → Bk) (i : Nat) : (fun j => if j = i then H (20 + i) else cutTo H i j) = cutTo H (i + 1) := by
  funext j
  unfold cutTo
  by_cases h : j = i
  · subst h; simp
  · rw [if_neg h]
    by_cases h2 : j < i
    · rw [if_pos h2, if_pos (by omega)]
    · rw [if_neg h2, if_neg (by omega)]
theorem arr_two {w : World} {z i : Nat} {f f2 : Nat → List UInt8} {t : TypeId} (h1 : w.heap[z]? = some (.cells (arrL f) t (0, 0))) (h2 : w.heap[z + 1]? = some (.cells (arrL f2) t (0, 0))) (x : List UInt8) :
    ((w.setCell ⟨z, i, none⟩ (.string ⟨x.toArray⟩)).setCell ⟨z + 1, i, none⟩ (.string ⟨x.toArray⟩)).heap[z]? = some (.cells (arrL fun j => if j = i then x else f j) t (0, 0)) ∧
    ((w.setCell ⟨z, i, none⟩ (.string ⟨x.toArray⟩)).setCell ⟨z + 1, i, none⟩ (.string ⟨x.toArray⟩)).heap[z + 1]? = some (.cells (arrL fun j => if j = i then x else f2 j) t (0, 0)) ∧
    Keep (fun k => k ≠ z ∧ k ≠ z + 1) w ((w.setCell ⟨z, i, none⟩ (.string ⟨x.toArray⟩)).setCell ⟨z + 1, i, none⟩ (.string ⟨x.toArray⟩)) := by
  have k1 : Keep (fun k => k ≠ z) w (w.setCell ⟨z, i, none⟩ (.string ⟨x.toArray⟩)) := (Keep.refl _ _).setCell (by simp) _
  have k2 : Keep (fun k => k ≠ z + 1) (w.setCell ⟨z, i, none⟩ (.string ⟨x.toArray⟩)) ((w.setCell ⟨z, i, none⟩ (.string ⟨x.toArray⟩)).setCell ⟨z + 1, i, none⟩ (.string ⟨x.toArray⟩)) := (Keep.refl _ _).setCell (by simp) _
  have l2 : z + 1 < w.heap.size := (Array.getElem?_eq_some_iff.1 h2).1
  have r1 := blk_set (o := i) h1 (.string ⟨x.toArray⟩)
  rw [arr_set] at r1
  have r2 := (k1.block (z + 1) (by omega) l2).trans h2
  refine ⟨(k2.block z (by omega) (by have := k1.size; omega)).trans r1, ?_, (k1.mono fun k hk _ => hk.1).trans (k2.mono fun k hk _ => hk.2)⟩
  have r3 := blk_set (o := i) r2 (.string ⟨x.toArray⟩)
  rw [arr_set] at r3
  exact r3
theorem bool_step {b : Bool} {P : Prop} {A B : List UInt8} (h : P → b = true) (hp : P → A = B) : P → (b && decide (A = B)) = true := fun p => by rw [h p, hp p]; simp
end Go.Proofs.Ytgbiffpnfpdcoaa

/- journal: Put and Commit with writes pending; a device without a log in hand: Fuse, and openings that stop. -/
namespace Go.Proofs.Ytgbiffpnfpdcoaa
open Go.RowKit Go.Maps
set_option linter.unusedVariables false
set_option linter.unusedSimpArgs false

/-- a log on a calm device on which writes may be pending: C is what its homes are -/
structure PutAt (w W : World) (g : Nat) (ρ : Nat → Option DRol) (N : Nat) (d : Dv) (gl L n : Nat) (C : Int → Bk) : Prop where
  hm : Mine w W g ρ N d
  calm : Calm d
  len : d.safe.length = L
  log : LogRow W gl g ((L : Int) - 20) n false
  low : w.heap.size ≤ gl
  rol : ρ gl = none
  img : ∀ s, Img d s → RecI s 0 n (doneB n) ∧ ∀ m, listNum (s 2) = some m → m ≤ n
  cur : ∀ j : Int, 20 ≤ j → j < L → curF d j = C j
theorem LogAt.put {w W : World} {g : Nat} {ρ : Nat → Option DRol} {N : Nat} {d : Dv} {gl L n : Nat} {H : Int → Bk} (h : LogAt w W g ρ N d gl L n H) (hc : Calm d) (hl : 64 ≤ L) : PutAt w W g ρ N d gl L n H := by
  refine ⟨h.hm, hc, h.len, h.log, h.low, h.rol, fun s hi => ?_, h.sp.home⟩
  have hi' := img_still h.st hi
  rw [h.len] at hi'
  exact ⟨h.sp.rec'.cur (hi' 0 (by omega) (by omega)) (hi' (0 + 1) (by omega) (by omega)), by rw [hi' 2 (by omega) (by omega)]; exact h.sp.num⟩
theorem PutAt.more {w W : World} {g : Nat} {ρ : Nat → Option DRol} {N N' : Nat} {d : Dv} {gl L n : Nat} {C : Int → Bk} (h : PutAt w W g ρ N d gl L n C) (hn : N ≤ N') : PutAt w W g ρ N' d gl L n C := { h with hm := h.hm.mono hn }
theorem PutAt.ext {w W W' : World} {g : Nat} {ρ : Nat → Option DRol} {N : Nat} {d : Dv} {gl L n : Nat} {C : Int → Bk} (h : PutAt w W g ρ N d gl L n C) (hx : Ext W W') : PutAt w W' g ρ N d gl L n C := { h with hm := h.hm.ext hx, log := h.log.ext hx }
theorem PutAt.kept {w W W' : World} {g : Nat} {ρ : Nat → Option DRol} {N : Nat} {d : Dv} {gl L n : Nat} {H : Int → Bk} (h : PutAt w W g ρ N d gl L n H) (hk : Keep (fun k => (ρ k ≠ none ∨ k < w.heap.size) ∨ k = gl) W W') : PutAt w W' g ρ N d gl L n H :=
  { h with hm := h.hm.kept (hk.mono fun k hk _ => .inl hk), log := h.log.keep hk (.inr rfl) }
theorem LPut {w W : World} {g : Nat} {ρ : Nat → Option DRol} {N : Nat} {d : Dv} {gl L n : Nat} {C : Int → Bk} (h : PutAt w W g ρ N d gl L n C) (hN : N ≤ 999999000) (hl : 64 ≤ L ∧ L ≤ 1000) (j : Int) (hj : 0 ≤ j ∧ j < (L : Int) - 20) (va : Option Addr) (vc : Nat) (data : List UInt8) (hv : RdB W (.slice va 512 vc) data) (hvb : ∀ k, (Value.slice va 512 vc).ownBlock = some k → ρ k = none) (hd : data.length = 512) :
    Calls Try.prog 48 #[.pointer (some ⟨gl, 0, none⟩), .int .i64 j, .slice va 512 vc] W fun e W' =>
      e = .returned (.int .i64 0) ∧ ∃ ρ' d', PutAt w W' g ρ' (N + 2) d' gl L n (fun i => if i = 20 + j then data else C i) ∧ RolNew ρ ρ' W ∧ Keep (fun k => ρ k = none ∧ k ≠ gl) W W' := by
  refine (JPut_any h.hm hN h.calm gl h.low h.rol _ (by omega) (by have := h.len; omega) n h.log j hj va vc data hv hvb hd).mono ?_
  rintro e W' ⟨rfl, ρ', d', hm', hc', hw', hlog', hr', hk'⟩
  refine ⟨rfl, ρ', d', ⟨hm', hc', hw'.len.trans h.len, hlog', h.low, rol_old hr' h.rol h.log.lt, fun s hs => ?_, fun i i0 i1 => ?_⟩, hr', hk'⟩
  · rcases hw'.img hs with ⟨s0, h1, h2, -⟩ | h1
    · obtain ⟨h3, h4⟩ := h.img s0 h1
      exact ⟨h3.cur (h2 0 (by omega)) (h2 (0 + 1) (by omega)), by rw [h2 2 (by omega)]; exact h4⟩
    · exact h.img s h1
  · rw [hw'.cur i]
    show (if i = 20 + j then data else curF d i) = if i = 20 + j then data else C i
    rw [h.cur i i0 i1]
theorem LCommitP {w W : World} {g : Nat} {ρ : Nat → Option DRol} {N : Nat} {d : Dv} {gl L n : Nat} {C : Int → Bk} (h : PutAt w W g ρ N d gl L n C) (hN : N ≤ 999700000) (hl : 64 ≤ L ∧ L ≤ 1000) (hn : n ≤ 100000000) (v : Value) (ws : List JW) (hv : RdS rWr W (fun k => ρ k = none ∧ k ≠ gl) v ws) (hin : WsIn L ws) :
    Calls Try.prog 50 #[.pointer (some ⟨gl, 0, none⟩), v] W fun e W' => ∃ ρ' d', e = .returned (.int .i64 0) ∧ LogAt w W' g ρ' (N + 500) d' gl L (n + 1) (wcurF 0 ws 0 C) ∧ Calm d' ∧ RolNew ρ ρ' W ∧ Keep (fun k => ρ k = none ∧ k ≠ gl) W W' := by
  have hwc : ∀ j : Int, 20 ≤ j → j < L → wcurF 0 ws 0 (curF d) j = wcurF 0 ws 0 C j := fun j a b => wcur_ext 0 ws 0 _ _ j (h.cur j a b)
  have hu := calm_up h.calm
  obtain ⟨h1, h2⟩ := commit_st hu h.len hl.1 (n := n) (by omega) h.img ws hin
  refine (Commit_any h.hm hN hu.up gl _ (by omega) n hn h.log h.low h.rol v ws hv hin.1 (fun p hp => hin.2 p hp) h1).mono ?_
  rintro e W' ⟨rfl, ρ', hm', hr', hlog', hk'⟩
  rcases h2 with ⟨d1, e1, u1, s1, l1, f1, g1⟩ | ⟨hf, -⟩
  · rw [e1] at hm' hlog' ⊢
    rw [applyL_ok] at hlog'
    exact ⟨ρ', d1, rfl, ⟨hm', u1, s1, l1, hlog', h.low, rol_old hr' h.rol h.log.lt, g1.mono hwc⟩, up_calm u1 (f1 h.calm.2.1), hr', hk'⟩
  · exact absurd h.calm.2.1 hf

theorem MFuseS {w W : World} {g : Nat} {ρ : Nat → Option DRol} {N : Nat} {d : Dv} (hm : Mine w W g ρ N d) (hu : Up d) (k : Nat) (hk : k ≤ 1000000) :
    Calls Try.prog 34 #[.pointer (some ⟨g, 0, none⟩), .int .i64 k] W fun e W' => e = .returned (.int .i64 0) ∧ ∃ d', Mine w W' g ρ N d' ∧ Up d' ∧ Same d d' ∧ Keep (fun j => j ≠ g) W W' := by
  refine (Fuse_any hm.dv (k : Int) (by omega)).mono ?_
  rintro e W' ⟨rfl, h1, h2⟩
  have h3 := hm.hd h1 h2
  have e1 : fuseF d k = (0, { d with fuse := k }) := by
    unfold fuseF
    rw [if_neg (by rw [hu.up]; simp), show max (k : Int) (-1) = k by omega]
  rw [e1] at h3 ⊢
  exact ⟨rfl, _, h3, ⟨hu.up, by show (-1 : Int) ≤ (k : Int); omega, hu.rng⟩, ⟨rfl, rfl⟩, h2⟩
/-- an opening that may stop: behind it, whatever a crash leaves, the same log lies there -/
theorem LOpenI {w W : World} {g : Nat} {ρ : Nat → Option DRol} {N : Nat} {d : Dv} (hm : Mine w W g ρ N d) (hN : N ≤ 999700000) (hu : Up d) (hst : Still d) {L : Nat} (hL : d.safe.length = L) (hl : 64 ≤ L ∧ L ≤ 1000) {n : Nat} (hn : n ≤ 1000000) {G : Int → Bk} (hs : Lies L n (curF d) fun H => H = G) :
    Calls Try.prog 49 #[.pointer (some ⟨g, 0, none⟩)] W fun e W' => ∃ (ok : Bool) (p : Option Addr) (ρ' : Nat → Option DRol) (d' : Dv), e = .returned (.tuple #[.pointer p, .int .i64 (if ok = true then 0 else 2)]) ∧ p.isSome = ok ∧ RolNew ρ ρ' W ∧ Keep (fun k => ρ k = none) W W' ∧ Mine w W' g ρ' (N + 300) d' ∧ d'.safe.length = L ∧
      ∀ s, Img d' s → Lies L (n + 1) s fun H => H = G := by
  obtain ⟨n', H0, res, h1, h2, h3, h4⟩ := hs
  refine (LOpenF hm hN hu hst hL hl (n := n') (by omega) h2 h3).mono ?_
  rintro e W' ⟨ρ', d', hr, hk, ⟨gl, rfl, h5, -, -⟩ | ⟨rfl, -, h5⟩⟩
  · refine ⟨true, some ⟨gl, 0, none⟩, ρ', d', rfl, rfl, hr, hk, h5.hm, h5.len, fun s hi => ⟨n' + 1, Hn H0 res, none, by omega, .inl ⟨rfl, ?_⟩, wsIn_nil L, h4⟩⟩
    exact h5.sp.cur hl.1 fun j a b => img_still h5.st hi j a (by rw [h5.len]; exact b)
  · refine ⟨false, none, ρ', d', rfl, rfl, hr, hk, h5.hm, h5.len, fun s hi => ?_⟩
    rcases h5.img s hi with h6 | h6
    · exact ⟨n', H0, res, by omega, h6, h3, h4⟩
    · exact ⟨n' + 1, Hn H0 res, none, by omega, .inl ⟨rfl, h6⟩, wsIn_nil L, h4⟩
end Go.Proofs.Ytgbiffpnfpdcoaa

/- journal: all blocks of a log, one behind the other; the last write to a block. -/
namespace Go.Proofs.Ytgbiffpnfpdcoaa
open Go.RowKit Go.Maps
set_option linter.unusedVariables false
set_option linter.unusedSimpArgs false

def allF (H : Int → Bk) (n : Nat) : List UInt8 := ((List.range n).map fun (j : Nat) => H (20 + (j : Int))).flatten
theorem allF_next (H : Int → Bk) (n : Nat) : allF H (n + 1) = allF H n ++ H (20 + (n : Int)) := by
  unfold allF
  rw [List.range_succ, List.map_append, List.flatten_append, List.map_singleton, List.flatten_singleton]
theorem allF_len (H : Int → Bk) : ∀ n, (∀ j : Nat, j < n → (H (20 + (j : Int))).length = 512) → (allF H n).length = 512 * n
  | 0, _ => by simp [allF]
  | n + 1, h => by
    rw [allF_next, List.length_append, allF_len H n (fun j hj => h j (by omega)), h n (by omega)]; omega
theorem allF_cut (H : Int → Bk) (b : Nat) : ∀ n, b < n → (∀ j : Nat, j < n → (H (20 + (j : Int))).length = 512) → ((allF H n).drop (512 * b)).take 512 = H (20 + (b : Int))
  | 0, hb, _ => absurd hb (by omega)
  | n + 1, hb, h => by
    have hl := allF_len H n (fun j hj => h j (by omega))
    rw [allF_next]
    by_cases e : b = n
    · subst e
      rw [← hl, List.drop_left, ← h b (by omega), List.take_length]
    · rw [List.drop_append_of_le_length (by omega), List.take_append_of_le_length (by rw [List.length_drop]; omega)]
      exact allF_cut H b n (by omega) (fun j hj => h j (by omega))
theorem upW_skip : ∀ (ws : List JW) (f : Nat → List UInt8) (b : Nat), (∀ p ∈ ws, p.1.toNat ≠ b) → upW f ws b = f b
  | [], _, _, _ => rfl
  | p :: ps, f, b, h => by
    show upW _ ps b = f b
    rw [upW_skip ps _ b fun q hq => h q (by simp [hq])]
    exact if_neg fun e => h p (by simp) e.symm
theorem upW_last (ws : List JW) (f : Nat → List UInt8) (i : Nat) (hi : i < ws.length) (h : ∀ j (hj : j < ws.length), i < j → ws[j].1.toNat ≠ ws[i].1.toNat) : upW f ws ws[i].1.toNat = ws[i].2 := by
  have e : ws = ws.take i ++ ws[i] :: ws.drop (i + 1) := by rw [← List.drop_eq_getElem_cons hi, List.take_append_drop]
  have e2 : upW f ws ws[i].1.toNat = upW (upW f (ws.take i)) (ws[i] :: ws.drop (i + 1)) ws[i].1.toNat := by
    conv => lhs; arg 2; rw [e]
    unfold upW; rw [List.foldl_append]
  rw [e2]
  show upW _ (ws.drop (i + 1)) _ = _
  rw [upW_skip]
  · exact if_pos rfl
  · intro p hp
    obtain ⟨k, hk, rfl⟩ := List.getElem_of_mem hp
    rw [List.getElem_drop]
    exact h (i + 1 + k) (by rw [List.length_drop] at hk; omega) (by omega)
theorem wcur_last {ws : List JW} {H : Int → Bk} (h0 : ∀ p ∈ ws, 0 ≤ p.1 ∧ p.1 < 44) (i : Nat) (hi : i < ws.length) (h : ∀ j (hj : j < ws.length), i < j → ws[j].1 ≠ ws[i].1) : wcurF 0 ws 0 H (20 + ws[i].1) = ws[i].2 := by
  have hb := h0 _ (List.getElem_mem hi)
  have h1 := upW_wcur ws (fun j => H (20 + (j : Int))) H 0 (fun p hp => (h0 p hp).1) (fun _ _ => rfl) ws[i].1.toNat (by omega)
  rw [show (20 + (ws[i].1.toNat : Int)) = 20 + ws[i].1 by omega] at h1
  rw [← h1]
  exact upW_last ws _ i hi fun j hj hij e => h j hj hij (by have := h0 _ (List.getElem_mem hj); omega)
/-- whether nothing behind is a write to the same block -/
def lastF (ws : List JW) (i j : Nat) : Bool := decide (∀ k (hk : k < ws.length), i < k → k < j → ∀ hi : i < ws.length, ws[k].1 ≠ ws[i].1)
theorem lastF_next (ws : List JW) (i j : Nat) (hi : i < ws.length) (hj : j < ws.length) (hij : i < j) : lastF ws i (j + 1) = (lastF ws i j && decide (ws[j].1 ≠ ws[i].1)) := by
  unfold lastF
  rw [Bool.eq_iff_iff]
  simp only [decide_eq_true_eq, Bool.and_eq_true]
  constructor
  · exact fun h => ⟨fun k hk h1 h2 hi => h k hk h1 (by omega) hi, h j hj hij (by omega) hi⟩
  · rintro ⟨h1, h2⟩ k hk h3 h4 hi'
    by_cases e : k = j
    · subst e; exact h2
    · exact h1 k hk h3 (by omega) hi'
theorem lastF_first (ws : List JW) (i : Nat) : lastF ws i (i + 1) = true := by
  unfold lastF
  rw [decide_eq_true_eq]
  intro k _ h1 h2; omega
theorem lastF_all {ws : List JW} {i : Nat} (hi : i < ws.length) (h : lastF ws i ws.length = true) : ∀ j (hj : j < ws.length), i < j → ws[j].1 ≠ ws[i].1 := by
  unfold lastF at h
  rw [decide_eq_true_eq] at h
  exact fun j hj hij => h j hj hij hj hi
end Go.Proofs.Ytgbiffpnfpdcoaa
