/- Index.Stream: what it hands back. -/
import Derived.Test.YthobhkmphjnlaaaStrR
namespace Go.Proofs.Ythobhkmphjnlaaa
open Go.RowKit
set_option linter.unusedVariables false
set_option linter.unusedSimpArgs false

theorem sizeInt : (Try.prog.info? 3).map (·.size) = some 1 := by kernel_rfl

set_option maxRecDepth 100000 in
set_option maxHeartbeats 1000000 in
theorem cutI_any (w : World) (S : Nat → Prop) (v : Value) (xs : List Int) (h : RdS rI w S v xs) (p q : Nat) (hp : p ≤ 9223372036854775807) (hq : q ≤ 9223372036854775807) :
    Calls Try.prog 73 #[v, .int .i64 p, .int .i64 q] w fun e w' => ∃ v', e = .returned v' ∧ RdS rI w S v' ((xs.drop p).take q) ∧ w = w' := by
  obtain ⟨a, cap, rfl, hc1, hc2⟩ := h.slice
  have H := hid h
  clear h
  obtain ⟨l, hl1, hl2⟩ : ∃ l, (xs.length < p ∧ l = xs.length ∨ ¬ xs.length < p ∧ l = p) ∧ l ≤ xs.length := by
    by_cases hpl : xs.length < p
    · exact ⟨xs.length, .inl ⟨hpl, rfl⟩, by omega⟩
    · exact ⟨p, .inr ⟨hpl, rfl⟩, by omega⟩
  have h1 := H.out.cut l xs.length hl2 (Nat.le_refl _)
  have hx1 : (xs.drop l).take (xs.length - l) = xs.drop l := List.take_of_length_le (by rw [List.length_drop]; omega)
  rw [hx1] at h1
  have H1 := hid h1
  obtain ⟨m, hm1, hm2⟩ : ∃ m, (xs.length - l < q ∧ m = xs.length - l ∨ ¬ xs.length - l < q ∧ m = q) ∧ m ≤ xs.length - l := by
    by_cases hpl : xs.length - l < q
    · exact ⟨xs.length - l, .inl ⟨hpl, rfl⟩, by omega⟩
    · exact ⟨q, .inr ⟨hpl, rfl⟩, by omega⟩
  have hdl : (xs.drop l).length = xs.length - l := List.length_drop
  rw [show xs.length - l = (xs.drop l).length from hdl.symm] at h1
  have h2 := h1.cut 0 m (Nat.zero_le _) (by rw [hdl]; omega)
  have hx2 : ((xs.drop l).drop 0).take (m - 0) = (xs.drop p).take q := by
    rw [List.drop_zero, Nat.sub_zero]
    rcases hl1 with ⟨k1, k2⟩ | ⟨k1, k2⟩
    · rw [k2, List.drop_of_length_le (Nat.le_refl _), List.drop_of_length_le (by omega)]; simp
    · rw [k2] at hm1 hdl ⊢
      rcases hm1 with ⟨j1, j2⟩ | ⟨j1, j2⟩
      · rw [j2, List.take_of_length_le (by omega), List.take_of_length_le (by omega)]
      · rw [j2]
  rw [hx2] at h2
  have H2 := hid h2
  clear h1 h2 hx1 hx2 hdl
  rcases hl1 with ⟨k1, rfl⟩ | ⟨k1, rfl⟩
  all_goals
    rcases hm1 with ⟨j1, rfl⟩ | ⟨j1, rfl⟩
  all_goals
      go_enter Try.func73, Try.ntmps73
      go_wp2_with ((with_reducible refine at_slice ?_); (first | (refine wl_slice_l rfl rfl Try.underlying81 sizeInt rfl rfl _ rfl ?_ ?_; omega) | (refine wl_slice_h rfl rfl Try.underlying81 sizeInt rfl rfl _ rfl ?_ ?_; omega)))
      go_ret
      have H3 := H2.out
      simp only [Nat.sub_zero, Nat.sub_self, show rI.size = 1 from rfl] at H3
      (first
        | exact ⟨_, rfl, H3, rfl⟩
        | (have H4 := H1.out
           simp only [Nat.sub_self, show rI.size = 1 from rfl] at H4
           have e1 : ∀ n, (xs.drop p).take n = xs.drop xs.length := by
             intro n; rw [List.drop_of_length_le (Nat.le_of_lt k1), List.drop_of_length_le (Nat.le_refl _)]; simp
           rw [← e1] at H4
           exact ⟨_, rfl, H4, rfl⟩))

theorem wl_appEnt {w : World} {ops : Array Oper} {rest : List Oper} {o : Oper} {a : Act} {Q : Exit → Act → World → Prop} (hgd : o.guard = none) (s x : Operand)
    (ho : o.op = .call { callee := .builtin .append, args := #[s, x], argTypes := #[49, 49] }) (base : Nat) (S : Nat → Prop)
    (v : Value) (xs : List Ent) (hs : a.eval s = v) (happ : OwnS rEntO 71 w base S v xs)
    (e : Ent) (fv : Value) (hrd : rEntO.rd w S [.int .i64 e.1, .string e.2.1, .int .i64 e.2.2.1, .string e.2.2.2.1, .int .i64 e.2.2.2.2.1, fv] e) (hfv : fv.oneCell' = true) (gb : Nat) (hx : a.eval x = .slice (some ⟨gb, 0, none⟩) 1 1)
    (hrow : w.heap[gb]? = some (.cells #[.int .i64 e.1, .string e.2.1, .int .i64 e.2.2.1, .string e.2.2.2.1, .int .i64 e.2.2.2.2.1, fv] 71 (0, 0))) (hSlt : ∀ k, S k → k < w.heap.size) (hl : xs.length ≤ 1000000) (hbase : base ≤ w.heap.size)
    (h : ∀ v' w', OwnS rEntO 71 w' base S v' (xs ++ [e]) → w.grownBy w' v.ownBlock → (∀ k, v'.ownBlock = some k → v.ownBlock = some k ∨ w.heap.size ≤ k) → wpList Try.prog ops Q rest (a.put o.dst v') w') : wpList Try.prog ops Q (o :: rest) a w := by
  refine wpList_plain hgd fun _ hK => wp_appS rEntO s x 49 49 71 _ 80 ho Try.underlying49 infoEnt rfl base S v xs hs happ _ [([.int .i64 e.1, .string e.2.1, .int .i64 e.2.2.1, .string e.2.2.2.1, .int .i64 e.2.2.2.2.1, fv], e)] hx ?_ ?_ hSlt (by simp; omega) (by simp; omega) hbase ?_
  · refine src_row Try.underlying49 hrow (fun u hu => ?_) rfl
    simp only [cellsOf, List.flatMap_cons, List.flatMap_nil, List.append_nil, List.mem_cons, List.not_mem_nil, or_false] at hu
    rcases hu with rfl | rfl | rfl | rfl | rfl | rfl
    · rfl
    · rfl
    · rfl
    · rfl
    · rfl
    · exact hfv
  · intro p hp
    obtain rfl := List.mem_singleton.1 hp
    exact hrd
  · intro v' w' k1 k2 k3
    exact hK _ _ (h v' w' k1 k2 k3)

def ent0 : Ent := (0, ⟨#[]⟩, 0, ⟨#[]⟩, 0, [])
/-- the entries at some places -/
def atF (x : Ix) (l : List Int) : List Ent := l.map fun k => x.all.getD k.toNat ent0
theorem atF_snoc (x : Ix) (l : List Int) (k : Int) : atF x (l ++ [k]) = atF x l ++ [x.all.getD k.toNat ent0] := by simp [atF]

set_option maxRecDepth 100000 in
set_option maxHeartbeats 1000000 in
theorem Stream_any (w : World) (g : Nat) (ρ : Nat → Option Rol) (ns nk : Nat) (x : Ix) (h : IxAt w g ρ ns nk x) (hall : x.all.length ≤ 1000000) (hfl : ∀ e ∈ x.all, e.2.2.2.2.2.length ≤ 1000000) (s : ByteArray) (hs : s.size ≤ 9223372036854775807) (hpos : ∀ k ∈ x.str s, 0 ≤ k ∧ k < x.all.length) (hstr : (x.str s).length ≤ 1000000) (p q : Nat) (hp : p ≤ 9223372036854775807) (hq : q ≤ 9223372036854775807) :
    Calls Try.prog 36 #[.pointer (some ⟨g, 0, none⟩), .string s, .int .i64 p, .int .i64 q] w fun e w' => ∃ v S', e = .returned (.tuple #[v, .int .i64 0]) ∧ OwnS rEntO 71 w' w.heap.size S' v (atF x (((x.str s).drop p).take q)) ∧ (∀ k, S' k → w.heap.size ≤ k ∧ k < w'.heap.size) ∧ Ext w w' := by
  obtain ⟨va, gs, gk, ms, mk, h⟩ := h
  have c0 := h.c0
  have c1 := h.c1
  have hss : s.size ≤ maxLen := by unfold maxLen; omega
  have hlk := h.str.look Try.underlying82 (zeroInts _) (x := s) hss
  have hsr := (h.strs s hss).rdT
  obtain ⟨sa, sc, hsv⟩ := (h.strs s hss).slice
  rw [show (ms s).getD (.slice none 0 0) = _ from hsv] at hlk
  rw [hsv] at hsr
  dsimp only [kStr] at hlk
  obtain ⟨aa, ac, rfl⟩ := h.all.slice
  have HA := hid (h.all.rd.mono (S' := fun k => k < w.heap.size) fun k _ hk => hk)
  have hgw := h.lt g (by rw [h.rg]; simp)
  clear h hsv
  obtain ⟨L, hL⟩ : ∃ L, L = ((x.str s).drop p).take q := ⟨_, rfl⟩
  have hLp : ∀ k ∈ L, 0 ≤ k ∧ k < x.all.length := fun e he => hpos e (by rw [hL] at he; exact List.mem_of_mem_drop (List.mem_of_mem_take he))
  have hLl : L.length ≤ 1000000 := by rw [hL, List.length_take, List.length_drop]; omega
  rw [← hL]
  have HLE := hid hL
  have HLP := hid hLp
  have HFL := hid hfl
  have HSR := hid hsr
  clear hL hfl hLp hpos hsr
  go_enter Try.func36, Try.ntmps36
  go_wp2_with fail
  refine (cutI_any _ _ _ (x.str s) HSR.out p q hp hq).mono ?_
  rintro e w1 ⟨v1, rfl, hv1, rfl⟩
  rw [← HLE.out] at hv1
  obtain ⟨a1, n1, rfl, -, -⟩ := hv1.slice
  have HV := hid hv1
  clear hv1 hlk
  go_wp2_with fail
  go_loopw [10, 33] (fun u10 u33 wr => ∃ i : Nat, ∃ S' : Nat → Prop, u33 = .int .i64 i ∧ i ≤ L.length ∧ OwnS rEntO 71 wr w.heap.size S' u10 (atF x (L.take i)) ∧ (∀ k, S' k → w.heap.size ≤ k ∧ k < wr.heap.size) ∧ Ext w wr) (fun _ u33 _ => L.length - (intOf u33).toNat)
  case atStart => exact ⟨0, fun _ => False, rfl, Nat.zero_le _, OwnS.nil _ _ _ _ _, fun _ h => h.elim, Ext.refl _⟩
  case round =>
    obtain ⟨wo, rfl⟩ : ∃ wo : World, wo = wr := ⟨_, rfl⟩
    obtain ⟨i, S', rfl, hi, hown, hS, hx⟩ := hrel
    have HX := hid hx
    have HSS := hid hS
    have htl : (atF x (L.take i)).length = i := by rw [atF, List.length_map, List.length_take]; omega
    obtain ⟨va, vc, rfl⟩ := hown.slice
    rw [htl] at hown
    rw [htl]
    have HO := hid hown
    have HOL := hid (fun k hk => (hown.lt k hk))
    have HTL := hid htl
    have k0 := hx.cellS c0
    have k1 := hx.cellS c1
    clear hown hS htl c0 c1
    by_cases hlt : i < L.length
    · obtain ⟨g1, o1, cap1, e1, hg1, -, z1, -⟩ := (HV.out.ext hx).atI i hlt
      simp only [Value.slice.injEq] at e1
      obtain ⟨rfl, -, rfl⟩ := e1
      have hm := HLP.out L[i] (List.getElem_mem hlt)
      obtain ⟨m, hmi⟩ : ∃ m : Nat, L[i] = (m : Int) := ⟨L[i].toNat, by omega⟩
      have HTS := hid (List.take_succ_eq_append_getElem hlt)
      rw [hmi] at z1 hm
      have hmlt : m < x.all.length := by omega
      have HMI := hid hmi
      obtain ⟨g2, o2, cap2, cs, e2, hg2, -, hcs, hcc, hrd⟩ := (HA.out.ext hx).at m hmlt
      simp only [Value.slice.injEq] at e2
      obtain ⟨rfl, -, rfl⟩ := e2
      obtain ⟨fv, rfl, hf⟩ := rEnt_cells hrd
      have b0 := hcc 0 _ rfl
      have b1 := hcc 1 _ rfl
      have b2 := hcc 2 _ rfl
      have b3 := hcc 3 _ rfl
      have b4 := hcc 4 _ rfl
      have b5 := hcc 5 _ rfl
      simp only [← Nat.add_assoc, Nat.add_zero, show rEnt.size = 6 from rfl] at b0 b1 b2 b3 b4 b5
      have HFi := hid (HFL.out x.all[m] (List.getElem_mem hmlt))
      have hgd : x.all.getD m ent0 = x.all[m] := by simp [hmlt]
      generalize hent : x.all[m] = ent at b0 b1 b2 b3 b4 b5 hf hrd HFi hgd
      have HGD := hid hgd
      have HF := hid hf
      have HRD := hid hrd
      have hxs := hx.size
      clear hcc hf hrd hent hgd hmi hm hx
      go_wp2_with fail
      refine (copied_any wo _ _ _ _ _ _ fv _ HF.out HFi.out).mono ?_
      rintro e w2 ⟨fv', rfl, hf', hx2⟩
      obtain ⟨fa', fc', rfl, -, -⟩ := hf'.slice
      have hz2 := hx2.size
      have HX2 := hid hx2
      have HOW := hid (show OwnS rEntO 71 w2 w.heap.size (fun k => S' k ∨ (wo.heap.size ≤ k ∧ k < w2.heap.size)) (.slice va i vc) (atF x (L.take i)) from (HO.out.ext hx2).widen (fun k hk _ => .inl hk) (fun k hk h => by
        obtain ⟨_, _, _, h5, _⟩ := HO.out
        rcases h with h | h
        · exact h5 k hk h
        · have := (HOL.out k hk).2; omega))
      have HRR := hid (rEnt_turnO (w' := w2) (S' := fun k => S' k ∨ (wo.heap.size ≤ k ∧ k < w2.heap.size)) HRD.out (hf'.mono fun k hk hl => .inr ⟨hk, hl⟩))
      have HSL := hid (show ∀ k, (S' k ∨ (wo.heap.size ≤ k ∧ k < w2.heap.size)) → w.heap.size ≤ k ∧ k < w2.heap.size from fun k hk => by
        rcases hk with hk | hk
        · have := HSS.out k hk; omega
        · exact ⟨by omega, hk.2⟩)
      clear hf' hx2 b0 b1 b2 b3 b4 b5 z1 k0 k1
      go_wp2_with (at_builtin; go_must (refine wl_appEnt rfl _ _ rfl w.heap.size _ _ (atF x (L.take i)) rfl (HOW.out.ext (by (· repeat (first | (with_reducible assumption) | exact Ext.refl _ | refine Ext.alloc ?_ _ | refine Ext.drew ?_ | refine Ext.drewN ?_ _ | (apply Ext.snart; (with_reducible assumption)))))) ent (.slice fa' ent.2.2.2.2.2.length fc') (Rdr.ext HRR.out (by (· repeat (first | (with_reducible assumption) | exact Ext.refl _ | refine Ext.alloc ?_ _ | refine Ext.drew ?_ | refine Ext.drewN ?_ _ | (apply Ext.snart; (with_reducible assumption)))))) rfl w2.heap.size rfl (heap_alloc_new _ _) (fun k hk => by have := (HSL.out k hk).2; simp; omega) (by rw [HTL.out]; omega) (by simp; omega) ?_; intro v' w' k1 k2 k3; have K1 := hid k1; have K2 := hid k2; clear k1 k2 k3))
      go_roundw
      case rel =>
        refine ⟨i + 1, _, by go_num, by omega, by rw [HTS.out, atF_snoc, HMI.out, Int.toNat_natCast, HGD.out]; exact K1.out, fun k hk => ?_, ?_⟩
        · have := HSL.out k hk
          have h4 := K2.out.size
          simp only [heap_alloc_sz] at h4
          omega
        · exact ((HX.out.trans HX2.out).trans (show Ext w2 _ by (· repeat (first | (with_reducible assumption) | exact Ext.refl _ | refine Ext.alloc ?_ _ | refine Ext.drew ?_ | refine Ext.drewN ?_ _ | (apply Ext.snart; (with_reducible assumption)))))).grown K2.out (fun k hk => (HOL.out k hk).1)
      case measure => simp [intOf]; omega
    · obtain rfl : i = L.length := by omega
      have hT : L.take L.length = L := List.take_length
      go_wp2_with fail
      have := HO.out
      rw [hT] at this
      refine bodyPost_ret (v := .tuple #[.slice va L.length vc, .int .i64 0]) (by simp [results, Try.results36, go_sem]) rfl ⟨_, _, rfl, this, HSS.out, HX.out⟩
end Go.Proofs.Ythobhkmphjnlaaa
