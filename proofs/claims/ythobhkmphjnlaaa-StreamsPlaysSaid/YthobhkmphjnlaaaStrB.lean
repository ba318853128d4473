/- streams.owned, walked. -/
import Derived.Test.YthobhkmphjnlaaaStrA
namespace Go.Proofs.Ythobhkmphjnlaaa
open Go.RowKit
set_option linter.unusedVariables false
set_option linter.unusedSimpArgs false

theorem RdS.upto {α : Type} {r : Rdr α} {w' : World} {B : Nat} {v : Value} {xs : List α} (h : RdS r w' (fun k => B ≤ k) v xs) : RdS r w' (fun k => B ≤ k ∧ k < w'.heap.size) v xs := h.mono fun k hk hl => ⟨hk, hl⟩

theorem heap_alloc_sz (w : World) (o : Obj) : (w.alloc o).heap.size = w.heap.size + 1 := by simp

theorem wl_appEvtO {w : World} {ops : Array Oper} {rest : List Oper} {o : Oper} {a : Act} {Q : Exit → Act → World → Prop} (hgd : o.guard = none) (s x : Operand)
    (ho : o.op = .call { callee := .builtin .append, args := #[s, x], argTypes := #[23, 23] }) (base : Nat) (S : Nat → Prop)
    (v : Value) (xs : List Ev) (hs : a.eval s = v) (happ : OwnS rEO 46 w base S v xs)
    (e : Ev) (fv : Value) (h1 : e.1.size ≤ 9223372036854775807) (h2 : -9223372036854775808 ≤ e.2.1 ∧ e.2.1 ≤ 9223372036854775807) (h3 : RdSO rF 108 w S fv e.2.2) (hfv : fv.oneCell' = true) (gb : Nat) (hx : a.eval x = .slice (some ⟨gb, 0, none⟩) 1 1)
    (hrow : w.heap[gb]? = some (.cells #[.string e.1, .int .i64 e.2.1, fv] 46 (0, 0))) (hSlt : ∀ k, S k → k < w.heap.size) (hl : xs.length ≤ 1000) (hbase : base ≤ w.heap.size)
    (h : ∀ v' w', OwnS rEO 46 w' base S v' (xs ++ [e]) → w.grownBy w' v.ownBlock → (∀ k, v'.ownBlock = some k → v.ownBlock = some k ∨ w.heap.size ≤ k) → wpList Try.prog ops Q rest (a.put o.dst v') w') : wpList Try.prog ops Q (o :: rest) a w := by
  refine wpList_plain hgd fun _ hK => wp_appS rEO s x 23 23 46 _ 48 ho Try.underlying23 infoEvt rfl base S v xs hs happ _ [([.string e.1, .int .i64 e.2.1, fv], e)] hx ?_ ?_ hSlt (by simp; omega) (by simp; omega) hbase ?_
  · refine src_row Try.underlying23 hrow (fun u hu => ?_) rfl
    simp only [cellsOf, List.flatMap_cons, List.flatMap_nil, List.append_nil, List.mem_cons, List.not_mem_nil, or_false] at hu
    rcases hu with rfl | rfl | rfl
    · rfl
    · rfl
    · exact hfv
  · intro p hp
    obtain rfl := List.mem_singleton.1 hp
    exact ⟨[_], _, rfl, ⟨rfl, h1⟩, [_], _, rfl, ⟨rfl, h2⟩, h3⟩
  · intro v' w' k1 k2 k3
    exact hK _ _ (h v' w' k1 k2 k3)

set_option maxRecDepth 100000 in
set_option maxHeartbeats 1000000 in
theorem owned_any (w : World) (S : Nat → Prop) (lv : Value) (l : List Ev) (hl : RdS rE w S lv l) (hle : l.length ≤ 1000) (hfe : ∀ e ∈ l, e.2.2.length ≤ 1000) :
    Calls Try.prog 44 #[lv] w fun e w' => ∃ v', e = .returned v' ∧ RdEs w' (fun k => w.heap.size ≤ k) v' l ∧ Ext w w' := by
  obtain ⟨la, lc, rfl, -, -⟩ := hl.slice
  have HL := hid hl
  have HFE := hid hfe
  clear hl hfe
  go_enter Try.func44, Try.ntmps44
  go_wp2_with fail
  go_loopw [3, 8] (fun u3 u8 wr => ∃ i : Nat, ∃ S' : Nat → Prop, u8 = .int .i64 i ∧ i ≤ l.length ∧ OwnS rEO 46 wr w.heap.size S' u3 (l.take i) ∧ (∀ k, S' k → w.heap.size ≤ k ∧ k < wr.heap.size) ∧ Ext w wr) (fun _ u8 _ => l.length - (intOf u8).toNat)
  case atStart => exact ⟨0, fun _ => False, rfl, Nat.zero_le _, OwnS.nil _ _ _ _ _, fun _ h => h.elim, Ext.refl _⟩
  case round =>
    obtain ⟨wo, rfl⟩ : ∃ wo : World, wo = wr := ⟨_, rfl⟩
    obtain ⟨i, S', rfl, hi, hown, hS, hx⟩ := hrel
    have HX := hid hx
    have HSS := hid hS
    have htl : (l.take i).length = i := by rw [List.length_take]; omega
    obtain ⟨va, vc, rfl⟩ := hown.slice
    rw [htl] at hown
    rw [htl]
    have HO := hid hown
    have HOL := hid (fun k hk => (hown.lt k hk))
    have HTL := hid htl
    clear hown hS htl
    by_cases hlt : i < l.length
    · obtain ⟨g, o, cap, fv, e, hg, -, d0, d1, d2, h1, h2, h3⟩ := (HL.out.ext hx).atE i hlt
      simp only [Value.slice.injEq] at e
      obtain ⟨rfl, -, rfl⟩ := e
      obtain ⟨fa, fc, rfl, -, -⟩ := h3.slice
      have hfl := HFE.out l[i] (List.getElem_mem hlt)
      have HTS := hid (List.take_succ_eq_append_getElem hlt)
      generalize hev : l[i] = ev at d0 d1 d2 h1 h2 h3 hfl HTS
      have HEV := hid hev
      obtain ⟨t, n, fs⟩ := ev
      dsimp only at d0 d1 d2 h1 h2 h3 hfl
      obtain ⟨h2a, h2b⟩ := h2
      have H3 := hid h3
      have hxs := hx.size
      clear hev h3 hx
      go_wp2_with fail
      refine (own_any _ S t n _ fs (H3.out.ext ?_) (by omega)).mono ?_
      · (· repeat (first | (with_reducible assumption) | exact Ext.refl _ | refine Ext.alloc ?_ _ | refine Ext.drew ?_ | refine Ext.drewN ?_ _ | (apply Ext.snart; (with_reducible assumption))))
      rintro e w1 ⟨fv1, rfl, hr1, hx1⟩
      obtain ⟨fa1, fc1, rfl, -, -⟩ := hr1.slice
      have HR1 := hid hr1.upto
      have hz1 := hx1.size
      simp only [heap_alloc_sz] at hz1
      have HX1 := hid (show Ext wo w1 from (show Ext wo _ by (· repeat (first | (with_reducible assumption) | exact Ext.refl _ | refine Ext.alloc ?_ _ | refine Ext.drew ?_ | refine Ext.drewN ?_ _ | (apply Ext.snart; (with_reducible assumption))))).trans hx1)
      clear hr1 hx1 d0 d1 d2
      have HOW := hid (show OwnS rEO 46 w1 w.heap.size (fun k => S' k ∨ (wo.heap.size ≤ k ∧ k < w1.heap.size)) (.slice va i vc) (l.take i) from (HO.out.ext HX1.out).widen (fun k hk _ => .inl hk) (fun k hk h => by
        obtain ⟨_, _, _, h5, _⟩ := HO.out
        rcases h with h | h
        · exact h5 k hk h
        · have := (HOL.out k hk).2; omega))
      have HRR := hid (HR1.out.mono (S' := fun k => S' k ∨ (wo.heap.size ≤ k ∧ k < w1.heap.size)) (fun k hk _ => .inr ⟨by have := hk.1; simp only [heap_alloc_sz] at this; omega, hk.2⟩))
      have HSL := hid (show ∀ k, (S' k ∨ (wo.heap.size ≤ k ∧ k < w1.heap.size)) → w.heap.size ≤ k ∧ k < w1.heap.size from fun k hk => by
        rcases hk with hk | hk
        · have := HSS.out k hk; omega
        · exact ⟨by omega, hk.2⟩)
      clear HR1
      go_wp2_with (at_builtin; go_must (refine wl_appEvtO rfl _ _ rfl w.heap.size _ _ (l.take i) rfl (HOW.out.ext (by (· repeat (first | (with_reducible assumption) | exact Ext.refl _ | refine Ext.alloc ?_ _ | refine Ext.drew ?_ | refine Ext.drewN ?_ _ | (apply Ext.snart; (with_reducible assumption)))))) (t, n, fs) (.slice fa1 fs.length fc1) h1 ⟨h2a, h2b⟩ (HRR.out.ext (by (· repeat (first | (with_reducible assumption) | exact Ext.refl _ | refine Ext.alloc ?_ _ | refine Ext.drew ?_ | refine Ext.drewN ?_ _ | (apply Ext.snart; (with_reducible assumption)))))) rfl w1.heap.size rfl (heap_alloc_new _ _) (fun k hk => by have := (HSL.out k hk).2; simp; omega) (by rw [HTL.out]; omega) (by simp; omega) ?_; intro v' w' k1 k2 k3; have K1 := hid k1; have K2 := hid k2; clear k1 k2 k3))
      go_roundw
      case rel =>
        refine ⟨i + 1, _, by go_num, by omega, by rw [HTS.out]; exact K1.out, fun k hk => ?_, ?_⟩
        · have := HSL.out k hk
          have h4 := K2.out.size
          simp only [heap_alloc_sz] at h4
          omega
        · exact ((HX.out.trans HX1.out).trans (show Ext w1 _ by (· repeat (first | (with_reducible assumption) | exact Ext.refl _ | refine Ext.alloc ?_ _ | refine Ext.drew ?_ | refine Ext.drewN ?_ _ | (apply Ext.snart; (with_reducible assumption)))))).grown K2.out (fun k hk => (HOL.out k hk).1)
      case measure => simp [intOf]; omega
    · obtain rfl : i = l.length := by omega
      have hT : l.take l.length = l := List.take_length
      go_wp2_with fail
      go_ret
      refine ⟨_, rfl, ?_, HX.out⟩
      have := HO.out.rdO
      rw [hT] at this
      refine this.mono fun k hk _ => ?_
      rcases hk with hk | hk
      · exact (HSS.out k hk).1
      · exact (HOL.out k hk).1
end Go.Proofs.Ythobhkmphjnlaaa
