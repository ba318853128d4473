/- The document Index: Add, Cut, Names; what holds of a log; spoil. -/
import Derived.Test.YthobhkmphjnlaaaPl1

/- The document's Index: Add, Cut. -/
namespace Go.Proofs.Ythobhkmphjnlaaa
open Go.RowKit Go.Maps
set_option linter.unusedVariables false
set_option linter.unusedSimpArgs false

/-- .. what its batches lead to lies in E -/
def RIxE (E U : Nat → Prop) (w : World) (r : Nat) (L : List Bat) : Prop :=
  ∃ v S, w.heap[r]? = some (.cells #[v] 75 (0, 0)) ∧ OwnS rB 31 w 0 S v L ∧ U r ∧ ¬ E r ∧ (∀ k, S k → E k) ∧ (∀ k, v.ownBlock = some k → U k ∧ ¬ E k ∧ k ≠ r) ∧ ∀ k, E k → U k
theorem RIxE.rix {E U : Nat → Prop} {w : World} {r : Nat} {L : List Bat} (h : RIxE E U w r L) : RIx U w r L := by
  obtain ⟨v, S, h1, h2, h3, h4, h5, h6, h7⟩ := h
  exact ⟨v, S, h1, h2, h3, fun e => h4 (h5 r e), fun k hk => h7 k (h5 k hk), fun k hk => ⟨(h6 k hk).1, (h6 k hk).2.2⟩⟩
theorem RIxE.keep {E U : Nat → Prop} {w w' : World} {r : Nat} {L : List Bat} (h : RIxE E U w r L) (hk : Keep U w w') : RIxE E U w' r L := by
  obtain ⟨v, S, h1, h2, h3, h4, h5, h6, h7⟩ := h
  exact ⟨v, S, (hk.block r h3 (Array.getElem?_eq_some_iff.1 h1).1).trans h1, h2.kept (hk.mono fun k hk _ => by
    rcases hk with hk | hk
    · exact h7 k (h5 k hk)
    · exact (h6 k hk).1), h3, h4, h5, h6, h7⟩
theorem RIxE.ext {E U : Nat → Prop} {w w' : World} {r : Nat} {L : List Bat} (h : RIxE E U w r L) (hx : Ext w w') : RIxE E U w' r L := h.keep (hx.keep _)
theorem RIxE.more {E U N : Nat → Prop} {w : World} {r : Nat} {L : List Bat} (h : RIxE E U w r L) (hN : ∀ k, N k → w.heap.size ≤ k) : RIxE (fun k => E k ∨ N k) (fun k => U k ∨ N k) w r L := by
  obtain ⟨v, S, h1, h2, h3, h4, h5, h6, h7⟩ := h
  have hr := (Array.getElem?_eq_some_iff.1 h1).1
  refine ⟨v, S, h1, h2, .inl h3, fun e => ?_, fun k hk => .inl (h5 k hk), fun k hk => ⟨.inl (h6 k hk).1, fun e => ?_, (h6 k hk).2.2⟩, fun k hk => hk.imp (h7 k) id⟩
  · rcases e with e | e
    · exact h4 e
    · have := hN r e; omega
  · rcases e with e | e
    · exact (h6 k hk).2.1 e
    · have := hN k e; have := (h2.lt k hk).2; omega
theorem RIxE.wide {E U U' : Nat → Prop} {w : World} {r : Nat} {L : List Bat} (h : RIxE E U w r L) (hU : ∀ k, U k → U' k) : RIxE E U' w r L := by
  obtain ⟨v, S, h1, h2, h3, h4, h5, h6, h7⟩ := h
  exact ⟨v, S, h1, h2, hU _ h3, h4, h5, fun k hk => ⟨hU _ (h6 k hk).1, (h6 k hk).2⟩, fun k hk => hU _ (h7 k hk)⟩
theorem infoBat1 : (Try.prog.info? 31).map (fun i => (i.zero, i.size, i.bytes)) = some (some (.agg #[.string ⟨#[]⟩, .string ⟨#[]⟩, .int .i64 0, .slice none 0 0]), rB.size, 64) := by kernel_rfl
theorem rB_mk {w : World} {S : Nat → Prop} {ev : Value} {f : Int} {s k : ByteArray} {es : List Ev} (h1 : s.size ≤ 9223372036854775807) (h2 : k.size ≤ 9223372036854775807) (h3 : -9223372036854775808 ≤ f ∧ f ≤ 9223372036854775807) (h4 : RdS rE w S ev es) : rB.rd w S [.string s, .string k, .int .i64 f, ev] (s, k, f, es) :=
  ⟨[_], _, rfl, ⟨rfl, h1⟩, [_], _, rfl, ⟨rfl, h2⟩, [_], _, rfl, ⟨rfl, h3⟩, h4⟩
def AddEndR (E U : Nat → Prop) (w : World) (r : Nat) (z : List Bat × Nat) (e : Ending) (w' : World) : Prop :=
  e = .returned (.int .i64 ((z.2 : Nat) : Int)) ∧ RIxE E (fun k => U k ∨ (w.heap.size ≤ k ∧ k < w'.heap.size)) w' r z.1 ∧ Keep (fun k => ¬ (U k ∧ ¬ E k)) w w'

set_option maxRecDepth 100000 in
set_option maxHeartbeats 4000000 in
theorem RAdd_any (w : World) (E U : Nat → Prop) (r : Nat) (L : List Bat) (h : RIxE E U w r L) (hN : evN L ≤ 100000) (hL : L.length ≤ 100000) (hb : BOk L) (hE : ∀ k, E k → k < w.heap.size) (s : ByteArray) (hs : s.size ≤ 9223372036854775807) (k : ByteArray) (hk : k.size ≤ 9223372036854775807) (f : Int) (hf : -9223372036854775808 ≤ f ∧ f ≤ 9223372036854775807)
    (ev : Value) (es : List Ev) (he : RdS rE w E ev es) (hle : es.length ≤ 9223372036854775807) :
    Calls Try.prog 78 #[.pointer (some ⟨r, 0, none⟩), .agg #[.string s, .string k, .int .i64 f, ev]] w (AddEndR E U w r (addR L (s, k, f, es))) := by
  obtain ⟨ea, ec, rfl, -, -⟩ := he.slice
  have H := hid h
  have HB0 := hid hb
  have HE := hid he
  have HEL := hid hE
  have HF := hid hf
  have hrl : r < w.heap.size := by obtain ⟨_, _, h1, _⟩ := h; exact (Array.getElem?_eq_some_iff.1 h1).1
  clear h hb he hE hf
  obtain ⟨wb, hwb⟩ : ∃ wb, wb = w.alloc (.cells #[.string s, .string k, .int .i64 f, .slice ea es.length ec] 31) := ⟨_, rfl⟩
  have hxb : Ext w wb := by rw [hwb]; exact (Ext.refl _).alloc _
  have hrb : wb.heap[w.heap.size]? = some (.cells #[.string s, .string k, .int .i64 f, .slice ea es.length ec] 31 (0, 0)) := by rw [hwb]; exact heap_alloc_new _ _
  go_enter Try.func78, Try.ntmps78
  go_wp2_with fail
  rw [← hwb]
  have HXB := hid hxb
  obtain ⟨g, hg⟩ : ∃ g, w.heap.size = g := ⟨_, rfl⟩
  rw [hg] at hrb ⊢
  have HRB := hid hrb
  have hgl : g < wb.heap.size := (Array.getElem?_eq_some_iff.1 hrb).1
  have HG := hid hg
  have hrg : ¬ r = g := by omega
  clear hwb hxb hrb hg
  refine (Rnamed_any wb s k hs hk).mono ?_
  rintro e w' ⟨rfl, rfl⟩
  obtain ⟨⟨x0, x1, x2, x3⟩, -⟩ := row4 HRB.out
  go_wp2_with fail
  refine (RKeyed_any wb U r L (H.out.rix.ext HXB.out) hN hL k hk).mono ?_
  rintro e w1 ⟨rfl, hx1⟩
  have HRB1 := hid ((Below.block hx1 g hgl).trans HRB.out)
  obtain ⟨z, hz⟩ : ∃ z, keyR k L 0 = z := ⟨_, rfl⟩
  have HZ := hid hz
  rw [hz]
  obtain ⟨zs, ⟨z1, z2, z3, z4⟩, zt⟩ := z
  have hz1 := hx1.size
  have HX1 := hid (HXB.out.trans hx1)
  have hg1 : g < w1.heap.size := by omega
  have hg2 : ¬ g = w1.heap.size := by omega
  have hg3 : ¬ w1.heap.size = g := by omega
  obtain ⟨⟨x0, x1, x2, x3⟩, -⟩ := row4 HRB1.out
  clear hx1 hz
  dsimp only
  go_wp2_with fail
  obtain ⟨w2, hw2⟩ : ∃ w2, w2 = w1.alloc (.cells #[.int .i64 z1, .int .i64 z2, .int .i64 z3, .bool z4] 29) := ⟨_, rfl⟩
  rw [← hw2]
  have hx2 : Ext w1 w2 := by rw [hw2]; exact (Ext.refl _).alloc _
  clear hw2 hg2 hg3
  refine (Rright_any w2 E _ es (HE.out.ext (HX1.out.trans hx2)) hle).mono ?_
  rintro e w3 ⟨rfl, hx3⟩
  have hx13 := hx2.trans hx3
  have HRB3 := hid ((Below.block hx13 g hg1).trans HRB1.out)
  have HX3 := hid (HX1.out.trans hx13)
  have hz3 := hx13.size
  have hg4 : g < w3.heap.size := by omega
  obtain ⟨⟨x0, x1, x2, x3⟩, -⟩ := row4 HRB3.out
  clear hx2 hx3 hx13
  have HNO := hid (show ∀ w' : World, Ext w w' → RIxE E (fun k => U k ∨ (w.heap.size ≤ k ∧ k < w'.heap.size)) w' r L ∧ Keep (fun k => ¬ (U k ∧ ¬ E k)) w w' from fun w' hx => ⟨(H.out.ext hx).wide fun k hk => .inl hk, hx.keep _⟩)
  cases hnm : namedF s k
  · have HT := hid (show addR L (s, k, f, es) = (L, 100) by unfold addR; rw [if_pos hnm])
    clear hnm
    go_wp2_with fail
    go_ret
    rw [AddEndR, HT.out]
    exact ⟨rfl, HNO.out _ HX3.out⟩
  cases zt
  rotate_left
  · have HT := hid (show addR L (s, k, f, es) = (L, 101) by unfold addR; rw [if_neg (by rw [hnm]; simp), if_pos (by rw [HZ.out])])
    clear hnm
    go_wp2_with fail
    go_ret
    rw [AddEndR, HT.out]
    exact ⟨rfl, HNO.out _ HX3.out⟩
  cases hrt : rightF es
  · have HT := hid (show addR L (s, k, f, es) = (L, 102) by unfold addR; rw [if_neg (by rw [hnm]; simp), if_neg (by rw [HZ.out]; simp), if_pos hrt])
    clear hnm hrt
    go_wp2_with fail
    go_ret
    rw [AddEndR, HT.out]
    exact ⟨rfl, HNO.out _ HX3.out⟩
  obtain ⟨m, hm⟩ : ∃ m, (ofF (entsF L) s).length = m := ⟨_, rfl⟩
  have HT0 := hid (show addR L (s, k, f, es) = if f ≠ (m : Int) then (L, 103) else (L ++ [(s, k, f, es)], 0) by unfold addR; rw [if_neg (by rw [hnm]; simp), if_neg (by rw [HZ.out]; simp), if_neg (by rw [hrt]; simp), hm])
  have HM := hid hm
  clear hnm hrt hm
  go_wp2_with fail
  have hxd : Ext w3 w3.drew := by (· repeat (first | (with_reducible assumption) | exact Ext.refl _ | refine Ext.alloc ?_ _ | refine Ext.drew ?_ | refine Ext.drewN ?_ _ | (apply Ext.snart; (with_reducible assumption))))
  have HXD := hid hxd
  refine wp_region_T (fun w' => w'.cell? ⟨g, 0, none⟩ = some (.string s) ∧ w'.cell? ⟨g, 2, none⟩ = some (.int .i64 f)) [] (by kernel_rfl) ⟨Ext.cellS hxd x0, Ext.cellS hxd x2⟩ (fun hS => ?_)
  clear hxd
  (refine wpAnyT_take (i := 0) (v := ?_) rfl (by kernel_rfl) (by kernel_rfl) (by kernel_rfl) (by kernel_rfl) (fun _ _ _ h => h) (Or.inl ⟨by rfl, ?_⟩) (by assumption) ?_; rotate_left; ((intro wS hSw; (try dsimp only at hSw); (try simp only [List.getElem_toArray, List.getElem_cons_zero, List.getElem_cons_succ]); go_simp); (try with_reducible rfl)); (try simp only [Act.put, List.getElem_toArray, List.getElem_cons_zero, List.getElem_cons_succ, List.setIfInBounds_toArray, List.set_cons_zero, List.set_cons_succ]))
  (refine wpAnyT_take (i := 1) (v := ?_) rfl (by kernel_rfl) (by kernel_rfl) (by kernel_rfl) (by kernel_rfl) (fun _ _ _ h => h) (Or.inl ⟨by rfl, ?_⟩) (by assumption) ?_; rotate_left; ((intro wS hSw; (try dsimp only at hSw); (try simp only [List.getElem_toArray, List.getElem_cons_zero, List.getElem_cons_succ]); go_simp); (try with_reducible rfl)); (try simp only [Act.put, List.getElem_toArray, List.getElem_cons_zero, List.getElem_cons_succ, List.setIfInBounds_toArray, List.set_cons_zero, List.set_cons_succ]))
  (refine wpAnyT_take (i := 2) (v := ?_) rfl (by kernel_rfl) (by kernel_rfl) (by kernel_rfl) (by kernel_rfl) (fun _ _ _ h => h) (Or.inl ⟨by rfl, ?_⟩) (by assumption) ?_; rotate_left; ((intro wS hSw; (try dsimp only at hSw); (try simp only [List.getElem_toArray, List.getElem_cons_zero, List.getElem_cons_succ]); go_simp); (try with_reducible rfl)); (try simp only [Act.put, List.getElem_toArray, List.getElem_cons_zero, List.getElem_cons_succ, List.setIfInBounds_toArray, List.set_cons_zero, List.set_cons_succ]))
  (refine wpAnyT_take (i := 3) (v := ?_) rfl (by kernel_rfl) (by kernel_rfl) (by kernel_rfl) (by kernel_rfl) (fun _ _ _ h => h) (Or.inl ⟨by rfl, ?_⟩) (by assumption) ?_; rotate_left; ((intro wS hSw; (try dsimp only at hSw); (try simp only [List.getElem_toArray, List.getElem_cons_zero, List.getElem_cons_succ]); go_simp); (try with_reducible rfl)); (try simp only [Act.put, List.getElem_toArray, List.getElem_cons_zero, List.getElem_cons_succ, List.setIfInBounds_toArray, List.set_cons_zero, List.set_cons_succ]))
  (refine wpAnyT_take (i := 4) (v := ?_) rfl (by kernel_rfl) (by kernel_rfl) (by kernel_rfl) (by kernel_rfl) (fun _ _ _ h => h) (Or.inl ⟨by rfl, ?_⟩) (by assumption) ?_; rotate_left; ((intro wS hSw; (try dsimp only at hSw); (try simp only [List.getElem_toArray, List.getElem_cons_zero, List.getElem_cons_succ]); go_simp); (try with_reducible rfl)); (try simp only [Act.put, List.getElem_toArray, List.getElem_cons_zero, List.getElem_cons_succ, List.setIfInBounds_toArray, List.set_cons_zero, List.set_cons_succ]))
  refine wpAnyT_all (rs := [5]) (by kernel_rfl) (by decide) (AllT.consS rfl (fun K hK => ?_) AllT.nil)
  go_simp
  go_at_call 80
  refine (ROf_any _ U r L (H.out.rix.ext (HX3.out.trans HXD.out)) hN hL HB0.out s hs).mono ?_
  rintro e w4 ⟨v4, rfl, S4, ho4, hS4, hx4⟩
  obtain ⟨oa, oc, rfl⟩ := ho4.slice
  have hx34 := HXD.out.trans hx4
  have HX4 := hid (HX3.out.trans hx34)
  have HRB4 := hid ((Below.block hx34 g hg4).trans HRB3.out)
  rw [HM.out]
  (refine hK.out _ _ (⟨Ext.cellS hx34 x0, Ext.cellS hx34 x2⟩) (fun hS => ?_); clear hK K)
  refine wpAnyT_all (rs := [6]) (by kernel_rfl) (by decide) (AllT.consS rfl (fun K hK => ?_) AllT.nil)
  go_simp
  (refine hK.out _ _ (hS) (fun hS => ?_); clear hK K)
  by_cases hfm : f = (m : Int)
  · subst hfm
    have e5 : ((m : Int) == (m : Int)) = true := by simp
    have e6 : ((m : Int) != (m : Int)) = false := by simp
    have HT := hid (HT0.out.trans (if_neg (fun h => h rfl)))
    refine wpAnyT_all (rs := [7]) (by kernel_rfl) (by decide) (AllT.consS rfl (fun K hK => ?_) AllT.nil)
    go_simp
    (refine hK.out _ _ (hS) (fun hS => ?_); clear hK K)
    refine wpAnyT_all (rs := [8]) (by kernel_rfl) (by decide) (AllT.consS rfl (fun K hK => ?_) AllT.nil)
    go_simp
    (refine hK.out _ _ (hS) (fun hS => ?_); clear hK K)
    refine wpAnyT_done (by kernel_rfl) (NoPanic.normal ?_) _
    obtain ⟨⟨x0, x1, x2, x3⟩, -⟩ := row4 HRB4.out
    have hz4 := hx34.size
    clear ho4 hS4 hx4 hx34 hS
    obtain ⟨v, S, hr1w, hr2w, hr3, hr4, hr5, hr6, hr7⟩ := H.out
    obtain ⟨va, vc, rfl⟩ := hr2w.slice
    have hr1 := (Below.block HX4.out r hrl).trans hr1w
    have hr2 := hr2w.ext HX4.out
    have HOL := hid hr2w.lt
    clear hr1w hr2w
    have cr := (cell_of_row _ _ 0 _ _ _ hr1).trans rfl
    have HR1 := hid hr1
    have HR2 := hid hr2
    have HR3 := hid hr3
    have HR4 := hid hr4
    have HR5 := hid hr5
    have HR6 := hid hr6
    have HR7 := hid hr7
    clear hr1 hr2 hr3 hr4 hr5 hr6 hr7
    go_wp2_with fail
    have hxd : Ext w4 w4.drew := by (· repeat (first | (with_reducible assumption) | exact Ext.refl _ | refine Ext.alloc ?_ _ | refine Ext.drew ?_ | refine Ext.drewN ?_ _ | (apply Ext.snart; (with_reducible assumption))))
    refine wp_region_L (fun w' => w'.cell? ⟨r, 0, none⟩ = some (.slice va L.length vc) ∧ w'.cell? ⟨g, 0, none⟩ = some (.string s) ∧ w'.cell? ⟨g, 1, none⟩ = some (.string k) ∧ w'.cell? ⟨g, 2, none⟩ = some (.int .i64 (m : Int)) ∧ w'.cell? ⟨g, 3, none⟩ = some (.slice ea es.length ec)) 10 (by kernel_rfl) ⟨Ext.cellS hxd cr, Ext.cellS hxd x0, Ext.cellS hxd x1, Ext.cellS hxd x2, Ext.cellS hxd x3⟩ (fun hS => ?_)
    (refine wpAnyL_take (i := 0) (v := ?_) rfl (by kernel_rfl) (by kernel_rfl) (by kernel_rfl) (by kernel_rfl) (fun _ _ _ h => h) (Or.inl ⟨by rfl, ?_⟩) (by assumption) ?_; rotate_left; ((intro wS hSw; (try dsimp only at hSw); (try simp only [List.getElem_toArray, List.getElem_cons_zero, List.getElem_cons_succ]); go_simp); (try with_reducible rfl)); (try simp only [Act.put, List.getElem_toArray, List.getElem_cons_zero, List.getElem_cons_succ, List.setIfInBounds_toArray, List.set_cons_zero, List.set_cons_succ]))
    (refine wpAnyL_take (i := 1) (v := ?_) rfl (by kernel_rfl) (by kernel_rfl) (by kernel_rfl) (by kernel_rfl) (fun _ _ _ h => h) (Or.inl ⟨by rfl, ?_⟩) (by assumption) ?_; rotate_left; ((intro wS hSw; (try dsimp only at hSw); (try simp only [List.getElem_toArray, List.getElem_cons_zero, List.getElem_cons_succ]); go_simp); (try with_reducible rfl)); (try simp only [Act.put, List.getElem_toArray, List.getElem_cons_zero, List.getElem_cons_succ, List.setIfInBounds_toArray, List.set_cons_zero, List.set_cons_succ]))
    (refine wpAnyL_take (i := 2) (v := ?_) rfl (by kernel_rfl) (by kernel_rfl) (by kernel_rfl) (by kernel_rfl) (fun _ _ _ h => h) (Or.inl ⟨by rfl, ?_⟩) (by assumption) ?_; rotate_left; ((intro wS hSw; (try dsimp only at hSw); (try simp only [List.getElem_toArray, List.getElem_cons_zero, List.getElem_cons_succ]); go_simp); (try with_reducible rfl)); (try simp only [Act.put, List.getElem_toArray, List.getElem_cons_zero, List.getElem_cons_succ, List.setIfInBounds_toArray, List.set_cons_zero, List.set_cons_succ]))
    (refine wpAnyL_take (i := 3) (v := ?_) rfl (by kernel_rfl) (by kernel_rfl) (by kernel_rfl) (by kernel_rfl) (fun _ _ _ h => h) (Or.inl ⟨by rfl, ?_⟩) (by assumption) ?_; rotate_left; ((intro wS hSw; (try dsimp only at hSw); (try simp only [List.getElem_toArray, List.getElem_cons_zero, List.getElem_cons_succ]); go_simp); (try with_reducible rfl)); (try simp only [Act.put, List.getElem_toArray, List.getElem_cons_zero, List.getElem_cons_succ, List.setIfInBounds_toArray, List.set_cons_zero, List.set_cons_succ]))
    (refine wpAnyL_take (i := 4) (v := ?_) rfl (by kernel_rfl) (by kernel_rfl) (by kernel_rfl) (by kernel_rfl) (fun _ _ _ h => h) (Or.inl ⟨by rfl, ?_⟩) (by assumption) ?_; rotate_left; ((intro wS hSw; (try dsimp only at hSw); (try simp only [List.getElem_toArray, List.getElem_cons_zero, List.getElem_cons_succ]); go_simp); (try with_reducible rfl)); (try simp only [Act.put, List.getElem_toArray, List.getElem_cons_zero, List.getElem_cons_succ, List.setIfInBounds_toArray, List.set_cons_zero, List.set_cons_succ]))
    (refine wpAnyL_take (i := 5) (v := ?_) rfl (by kernel_rfl) (by kernel_rfl) (by kernel_rfl) (by kernel_rfl) (fun _ _ _ h => h) (Or.inl ⟨by rfl, ?_⟩) (by assumption) ?_; rotate_left; ((intro wS hSw; (try dsimp only at hSw); (try simp only [List.getElem_toArray, List.getElem_cons_zero, List.getElem_cons_succ]); go_simp); (try with_reducible rfl)); (try simp only [Act.put, List.getElem_toArray, List.getElem_cons_zero, List.getElem_cons_succ, List.setIfInBounds_toArray, List.set_cons_zero, List.set_cons_succ]))
    (refine wpAnyL_one (i := 6) (by kernel_rfl) rfl (fun K hK => ?_))
    go_simp
    have hxA : Ext w4 (w4.alloc (.cells #[.string s, .string k, .int .i64 (m : Int), .slice ea es.length ec] 31)).drew := by (· repeat (first | (with_reducible assumption) | exact Ext.refl _ | refine Ext.alloc ?_ _ | refine Ext.drew ?_ | refine Ext.drewN ?_ _ | (apply Ext.snart; (with_reducible assumption))))
    (refine hK.out _ _ (fun _ => ⟨Ext.cellS hxA cr, Ext.cellS hxA x0, Ext.cellS hxA x1, Ext.cellS hxA x2, Ext.cellS hxA x3⟩) (fun hS => ?_); clear hK K)
    have hS := hS (by decide)
    have hnr : (w4.alloc (.cells #[.string s, .string k, .int .i64 (m : Int), .slice ea es.length ec] 31)).drew.heap[w4.heap.size]? = some _ := heap_alloc_new w4 (.cells #[.string s, .string k, .int .i64 (m : Int), .slice ea es.length ec] 31)
    obtain ⟨wa, hwa⟩ : ∃ wa, wa = (w4.alloc (.cells #[.string s, .string k, .int .i64 (m : Int), .slice ea es.length ec] 31)).drew := ⟨_, rfl⟩
    rw [← hwa] at hxA hS hnr ⊢
    have HNR := hid hnr
    have HXA := hid hxA
    clear hwa hnr
    (refine wpAnyL_one (i := 7) (by kernel_rfl) rfl (fun K hK => ?_))
    refine step_app1 rB rfl _ _ _ _ _ 64 rfl Try.underlying73 infoBat1 rfl 0 E (Nat.zero_le _) _ L rfl ((HR2.out.widen (S' := E) (fun k hk _ => HR5.out k hk) (fun k hk => (HR6.out k hk).2.1)).ext HXA.out) _ (s, k, (m : Int), es) (rB_mk hs hk HF.out (HE.out.ext (HX4.out.trans HXA.out))) _ rfl HNR.out (fun k hk => Nat.lt_of_lt_of_le (HEL.out k hk) (HX4.out.trans HXA.out).size) (by omega) (by omega) ?_
    intro v6 w6 k1 k2 k3
    have hk6 := keep_grown k2
    have hrow6 := (hk6.block r (fun e => (HR6.out r e.symm).2.2 rfl) (Nat.lt_of_lt_of_le (Array.getElem?_eq_some_iff.1 HR1.out).1 HXA.out.size)).trans ((Below.block HXA.out r (Array.getElem?_eq_some_iff.1 HR1.out).1).trans HR1.out)
    have hkg : Keep (fun k => k = g) w4 w6 := (HXA.out.keep _).trans (hk6.mono fun j hj _ e => by
      have h1 := (HOL.out j e.symm).2
      have h2 := HG.out
      omega)
    have s0 := (cell_of_row _ _ 0 _ _ _ hrow6).trans rfl
    have s1 := hkg.cell x0 rfl
    have s2 := hkg.cell x1 rfl
    have s3 := hkg.cell x2 rfl
    have s4 := hkg.cell x3 rfl
    have fr := frozen_blk hrow6 0
    obtain ⟨va6, vc6, hv6⟩ := k1.slice
    rw [List.length_append, List.length_singleton] at hv6
    subst hv6
    have K1 := hid k1
    have K3 := hid k3
    have HK6 := hid hk6
    have HR6W := hid hrow6
    clear k1 k2 k3 hk6 hrow6 hkg
    (refine hK.out _ _ (fun _ => ⟨s0, s1, s2, s3, s4⟩) (fun hS => ?_); clear hK K)
    have hS := hS (by decide)
    (refine wpAnyL_one (i := 8) (by kernel_rfl) rfl (fun K hK => ?_))
    go_simp
    (refine hK.out _ _ (fun _ => ⟨s0, s1, s2, s3, s4⟩) (fun hS => ?_); clear hK K)
    have hS := hS (by decide)
    (refine wpAnyL_one (i := 9) (by kernel_rfl) rfl (fun K hK => ?_))
    go_simp
    (refine hK.out _ _ (fun _ => ⟨s0, s1, s2, s3, s4⟩) (fun hS => ?_); clear hK K)
    clear hS
    (refine wpAnyL_one (i := 10) (by kernel_rfl) rfl (fun K hK => ?_))
    go_simp
    (refine hK.out _ _ (fun h => absurd rfl h) (fun _ => ?_); clear hK K; refine wpAnyL_done (by kernel_rfl) ?_ _)
    refine NoPanic.normal ?_
    clear s0 s1 s2 s3 s4 hxA hxd
    go_wp2_with fail
    go_ret
    rw [AddEndR, HT.out]
    have hsr : Keep (fun j => j ≠ r) w6 (w6.setCell ⟨r, 0, none⟩ (.slice va6 (L.length + 1) vc6)) := (Keep.refl _ _).setCell (by simp) _
    have hzA := (HX4.out.trans HXA.out).size
    have hz6 := HK6.out.size
    have hown : ∀ j, (Value.slice va6 (L.length + 1) vc6).ownBlock = some j → (U j ∨ (w.heap.size ≤ j ∧ j < w6.heap.size)) ∧ ¬ E j ∧ j ≠ r := fun j hj => by
      have hlt := (K1.out.lt j hj).2
      rcases K3.out j hj with h | h
      · exact ⟨.inl (HR6.out j h).1, (HR6.out j h).2.1, (HR6.out j h).2.2⟩
      · exact ⟨.inr ⟨by omega, hlt⟩, fun e => by have := HEL.out j e; omega, by omega⟩
    refine ⟨rfl, ⟨_, E, (set_blk (o := 0) HR6W.out (.slice va6 (L.length + 1) vc6)).trans rfl, ?_, .inl HR3.out, HR4.out, fun j hj => hj, fun j hj => ?_, fun j hj => .inl (HR7.out j hj)⟩, ?_⟩
    · refine K1.out.kept (hsr.mono fun j hj _ e => ?_)
      subst e
      rcases hj with hj | hj
      · exact HR4.out hj
      · exact (hown _ hj).2.2 rfl
    · obtain ⟨q1, q2⟩ := hown j hj
      exact ⟨by simpa using q1, q2⟩
    · refine ((((HX4.out.trans HXA.out).keep _).trans (HK6.out.mono fun j hj hl e => ?_)).trans (hsr.mono fun j hj _ e => ?_))
      · exact hj ⟨(HR6.out j e.symm).1, (HR6.out j e.symm).2.1⟩
      · subst e
        exact hj ⟨HR3.out, HR4.out⟩
  · have e5 : (f == (m : Int)) = false := by simp [hfm]
    have e6 : (f != (m : Int)) = true := by simp [hfm]
    have HT := hid (HT0.out.trans (if_pos hfm))
    refine wpAnyT_all (rs := [7]) (by kernel_rfl) (by decide) (AllT.consS rfl (fun K hK => ?_) AllT.nil)
    go_simp
    (refine hK.out _ _ (hS) (fun hS => ?_); clear hK K)
    refine wpAnyT_all (rs := [8]) (by kernel_rfl) (by decide) (AllT.consS rfl (fun K hK => ?_) AllT.nil)
    go_simp
    (refine hK.out _ _ (hS) (fun hS => ?_); clear hK K)
    refine wpAnyT_done (by kernel_rfl) (NoPanic.normal ?_) _
    go_wp2_with fail
    go_ret
    rw [AddEndR, HT.out]
    exact ⟨rfl, HNO.out _ HX4.out⟩
end Go.Proofs.Ythobhkmphjnlaaa

/- The document's Cut and Names. -/
namespace Go.Proofs.Ythobhkmphjnlaaa
open Go.RowKit Go.Maps
set_option linter.unusedVariables false
set_option linter.unusedSimpArgs false

theorem sizeEnt02 : (Try.prog.info? 71).map (·.size) = some rEnt.size := by kernel_rfl

set_option maxRecDepth 100000 in
set_option maxHeartbeats 1000000 in
theorem RCut_bad (w : World) (la : Option Addr) (ll lc : Nat) (p q : Int) (h : p < 0 ∨ q < 0) :
    Calls Try.prog 79 #[.slice la ll lc, .int .i64 p, .int .i64 q] w fun e w' => e = .returned (.tuple #[.slice none 0 0, .int .i64 1]) ∧ w = w' := by
  by_cases h1 : p < 0
  all_goals
    try have h2 : q < 0 := by omega
    go_enter Try.func79, Try.ntmps79
    go_wp2_with fail
    refine bodyPost_ret (v := .tuple #[.slice none 0 0, .int .i64 1]) (by simp [results, Try.results79, go_sem]) rfl ⟨rfl, rfl⟩
set_option maxRecDepth 100000 in
set_option maxHeartbeats 1000000 in
theorem RCut_any (w : World) (S : Nat → Prop) (v : Value) (xs : List Ent) (h : RdS rEnt w S v xs) (p q : Nat) (hp : p ≤ 9223372036854775807) (hq : q ≤ 9223372036854775807) :
    Calls Try.prog 79 #[v, .int .i64 p, .int .i64 q] w fun e w' => ∃ v', e = .returned (.tuple #[v', .int .i64 0]) ∧ RdS rEnt w S v' ((xs.drop p).take q) ∧ w = w' := by
  obtain ⟨a, cap, rfl, hc1, hc2⟩ := h.slice
  obtain ⟨l, hl1, hl2⟩ : ∃ l, (xs.length < p ∧ l = xs.length ∨ ¬ xs.length < p ∧ l = p) ∧ l ≤ xs.length := by
    by_cases hpl : xs.length < p
    · exact ⟨xs.length, .inl ⟨hpl, rfl⟩, by omega⟩
    · exact ⟨p, .inr ⟨hpl, rfl⟩, by omega⟩
  obtain ⟨m, hm1, hm2⟩ : ∃ m, (xs.length - l < q ∧ m = xs.length - l ∨ ¬ xs.length - l < q ∧ m = q) ∧ m ≤ xs.length - l := by
    by_cases hpl : xs.length - l < q
    · exact ⟨xs.length - l, .inl ⟨hpl, rfl⟩, by omega⟩
    · exact ⟨q, .inr ⟨hpl, rfl⟩, by omega⟩
  have h2 := h.cut l (l + m) (by omega) (by omega)
  have hx2 : (xs.drop l).take (l + m - l) = (xs.drop p).take q := by
    rw [Nat.add_sub_cancel_left]
    rcases hl1 with ⟨k1, k2⟩ | ⟨k1, k2⟩
    · rw [k2, List.drop_of_length_le (Nat.le_refl _), List.drop_of_length_le (by omega)]; simp
    · rw [k2] at hm1 ⊢
      rcases hm1 with ⟨j1, j2⟩ | ⟨j1, j2⟩
      · rw [j2, List.take_of_length_le (by rw [List.length_drop]; omega), List.take_of_length_le (by rw [List.length_drop]; omega)]
      · rw [j2]
  rw [hx2] at h2
  have H2 := hid h2
  have hp0 : ¬ (p : Int) < 0 := by omega
  have hq0 : ¬ (q : Int) < 0 := by omega
  have hw1 : IntKind.i64.wrap ((xs.length : Int) - (l : Int)) = ((xs.length - l : Nat) : Int) := by rw [IntKind.wrap_i64]; omega
  have hw2 : IntKind.i64.wrap ((l : Int) + (m : Int)) = ((l + m : Nat) : Int) := by rw [IntKind.wrap_i64]; omega
  have hmin1 : min (p : Int) (xs.length : Int) = (l : Int) := by omega
  have hmin2 : min (q : Int) ((xs.length - l : Nat) : Int) = (m : Int) := by omega
  have HM1 := hid hmin1
  clear h h2 hx2 hl1 hm1
  go_enter Try.func79, Try.ntmps79
  go_wp2_with ((with_reducible refine at_slice ?_); go_must (refine wl_slice_lh rfl rfl Try.underlying49 sizeEnt02 rfl rfl rfl l (l + m) rfl rfl ?_ ?_ ?_; omega; omega))
  refine bodyPost_ret (v := .tuple #[.slice (cutAt a cap l rEnt.size) m (cap - l), .int .i64 0]) (by simp [results, Try.results79, go_sem]) rfl ⟨_, rfl, ?_, rfl⟩
  have h := H2.out
  rw [Nat.add_sub_cancel_left] at h
  exact h

theorem cells_put1 {α : Type} (gs : List (List Value × α)) (x : α) (u : Value) : (∀ p ∈ gs, p.1.length = 1) → ∀ i, i < gs.length → cellsOf (gs.set i ([u], x)) = (cellsOf gs).set i u := by
  induction gs with
  | nil => intro _ i hi; simp at hi
  | cons p gs ih =>
    intro h i hi
    have hp := h p (by simp)
    obtain ⟨l, y⟩ := p
    match l, hp with
    | [v], _ =>
      cases i with
      | zero => simp [cellsOf]
      | succ i =>
        have := ih (fun q hq => h q (by simp [hq])) i (by simpa using hi)
        simp only [cellsOf, List.set_cons_succ, List.flatMap_cons] at this ⊢
        rw [this]; rfl
theorem OwnS.set1 {α : Type} {r : Rdr α} {t : TypeId} {w : World} {base : Nat} {S : Nat → Prop} {g n cap : Nat} {xs : List α} (h : OwnS r t w base S (.slice (some ⟨g, 0, none⟩) n cap) xs) (h1 : r.size = 1) (i : Nat) (hi : i < xs.length) (u : Value) (y : α)
    (hc : r.rd w S [u] y) : OwnS r t (w.setCell ⟨g, i, none⟩ u) base S (.slice (some ⟨g, 0, none⟩) n cap) (xs.set i y) := by
  obtain ⟨gs, rfl, ⟨h1', h2⟩, h3, h4⟩ := h
  have hS : ¬ S g := h3 g rfl
  have hk := (Keep.refl S w).setCell (p := ⟨g, i, none⟩) hS u
  have hi' : i < gs.length := by simpa using hi
  have hlen : ∀ p ∈ gs, p.1.length = 1 := fun p hp => h1 ▸ r.len (h4 p hp)
  rcases h2 with ⟨h2, h2'⟩ | ⟨g', cap', cur, h2, hb, hg, hn, hm, hcs, hx⟩
  · rw [h2'] at hi'; exact absurd hi' (Nat.not_lt_zero _)
  · simp only [Value.slice.injEq, Option.some.injEq, Addr.mk.injEq] at h2
    obtain ⟨⟨rfl, -⟩, rfl, rfl⟩ := h2
    refine ⟨gs.set i ([u], y), ?_, ⟨?_, .inr ⟨g, cap, _, ?_, hb, set_blk hg u, ?_, hm, ?_, ?_⟩⟩, h3, fun p hp => ?_⟩
    · rw [List.map_set]
    · rw [cells_put1 gs _ u hlen i hi']; simpa using h1'
    · rw [List.length_set]
    · rw [List.length_set]; exact hn
    · simpa using hcs
    · rw [cells_put1 gs _ u hlen i hi', List.length_set]
      simp only [Array.toList_setIfInBounds, List.take_set]
      rw [hx]
    · rcases List.mem_or_eq_of_mem_set hp with hp | rfl
      · exact Rdr.kept (h4 p hp) hk
      · exact Rdr.kept hc hk
theorem bytesLess_lt : ∀ (x y : List UInt8), Op.bytesLess x y = decide (x < y)
  | [], [] => by simp [Op.bytesLess]
  | _ :: _, [] => by simp [Op.bytesLess]
  | [], _ :: _ => by simp [Op.bytesLess]
  | a :: x, b :: y => by
    rw [Op.bytesLess, bytesLess_lt x y]
    simp only [List.cons_lt_cons_iff]
    by_cases h1 : a < b <;> by_cases h2 : a = b <;> by_cases h3 : x < y <;> simp [h1, h2, h3]
theorem less_bs (a b : ByteArray) : Op.bytesLess a.toList b.toList = decide (a.data.toList < b.data.toList) := by
  rw [ByteArray.toList_eq, ByteArray.toList_eq, bytesLess_lt]
/-- a name on its way to its place -/
def shX (l : List ByteArray) (s : ByteArray) (j : Nat) : List ByteArray := (l ++ [s]).take (j + 1) ++ l.drop j
theorem shX_len (l : List ByteArray) (s : ByteArray) (j : Nat) (hj : j ≤ l.length) : (shX l s j).length = l.length + 1 := by unfold shX; simp; omega
theorem shX_zero (l : List ByteArray) (s : ByteArray) : shX l s l.length = l ++ [s] := by
  unfold shX
  rw [List.drop_length, List.append_nil, List.take_of_length_le (by simp)]
theorem shX_at (l : List ByteArray) (s : ByteArray) (j : Nat) (hj : j < l.length) : (shX l s (j + 1))[j]'(by rw [shX_len _ _ _ (by omega)]; omega) = l[j] := by
  unfold shX
  rw [List.getElem_append_left (by simp; omega), List.getElem_take, List.getElem_append_left hj]
theorem shX_step (l : List ByteArray) (s : ByteArray) (j : Nat) (hj : j < l.length) : (shX l s (j + 1)).set (j + 1) l[j] = shX l s j := by
  unfold shX
  have h1 : ((l ++ [s]).take (j + 1 + 1)).length = j + 2 := by simp; omega
  rw [List.set_append_left _ _ (by omega), ← List.take_append_getElem (i := j + 1) (by simp; omega)]
  have h2 : ((l ++ [s]).take (j + 1)).length = j + 1 := by simp; omega
  rw [List.set_append_right _ _ (by omega), h2, Nat.sub_self, List.set_cons_zero, List.append_assoc]
  congr 1
  rw [List.drop_eq_getElem_cons hj]; rfl
theorem shX_end (l : List ByteArray) (s : ByteArray) (k : Nat) (hk : k ≤ l.length) : (shX l s k).set k s = l.take k ++ s :: l.drop k := by
  unfold shX
  have h1 : ((l ++ [s]).take (k + 1)).length = k + 1 := by simp; omega
  rw [List.set_append_left _ _ (by omega), ← List.take_append_getElem (i := k) (by simp; omega)]
  have h2 : ((l ++ [s]).take k).length = k := by simp; omega
  rw [List.set_append_right _ _ (by omega), h2, Nat.sub_self, List.set_cons_zero, List.append_assoc, List.take_append_of_le_length hk]
  rfl
/-- a name in its place -/
def insAt (s : ByteArray) : List ByteArray → Nat
  | [] => 0
  | a :: l => if a.data.toList < s.data.toList then insAt s l + 1 else 0
def insF (l : List ByteArray) (s : ByteArray) : List ByteArray :=
  if l[insAt s l]? = some s then l else l.take (insAt s l) ++ s :: l.drop (insAt s l)
def namesR (L : List Bat) : List ByteArray := L.foldl (fun l b => insF l b.1) []
theorem namesR_snoc (L : List Bat) (b : Bat) : namesR (L ++ [b]) = insF (namesR L) b.1 := by unfold namesR; rw [List.foldl_append]; rfl
theorem insAt_le (s : ByteArray) : ∀ l : List ByteArray, insAt s l ≤ l.length
  | [] => Nat.le_refl _
  | a :: l => by
    unfold insAt
    split
    · have := insAt_le s l; simp; omega
    · simp
theorem insAt_lt (s : ByteArray) : ∀ (l : List ByteArray) (i : Nat) (hi : i < l.length), i < insAt s l → l[i].data.toList < s.data.toList
  | a :: l, 0, hi, h => by
    unfold insAt at h
    split at h
    · assumption
    · omega
  | a :: l, i + 1, hi, h => by
    unfold insAt at h
    split at h
    · exact insAt_lt s l i (by simpa using hi) (by omega)
    · omega
theorem insAt_ge (s : ByteArray) : ∀ (l : List ByteArray) (hi : insAt s l < l.length), ¬ (l[insAt s l]).data.toList < s.data.toList
  | a :: l, hi => by
    by_cases h : a.data.toList < s.data.toList
    · have e : insAt s (a :: l) = insAt s l + 1 := by rw [insAt, if_pos h]
      have := insAt_ge s l (by rw [e] at hi; simpa using hi)
      simpa [e] using this
    · have e : insAt s (a :: l) = 0 := by rw [insAt, if_neg h]
      simpa [e] using h
theorem insF_len (l : List ByteArray) (s : ByteArray) : (insF l s).length ≤ l.length + 1 := by
  unfold insF
  split
  · omega
  · have := insAt_le s l
    simp [List.length_take, List.length_drop]; omega
theorem namesR_len : ∀ (L : List Bat) (l : List ByteArray), (L.foldl (fun l b => insF l b.1) l).length ≤ l.length + L.length
  | [], l => Nat.le_refl _
  | b :: L, l => by
    have h1 := namesR_len L (insF l b.1)
    have h2 := insF_len l b.1
    simp only [List.foldl_cons, List.length_cons]
    omega
theorem infoStr1 : (Try.prog.info? 9).map (fun i => (i.zero, i.size, i.bytes)) = some (some (.string ⟨#[]⟩), rS.size, 16) := by kernel_rfl

set_option maxRecDepth 100000 in
set_option maxHeartbeats 4000000 in
theorem RNames_any (w : World) (U : Nat → Prop) (r : Nat) (L : List Bat) (h : RIx U w r L) (hL : L.length ≤ 100000) :
    Calls Try.prog 82 #[.pointer (some ⟨r, 0, none⟩)] w fun e w' => ∃ v, e = .returned v ∧ OwnS rS 9 w' w.heap.size (fun _ => False) v (namesR L) ∧ Ext w w' := by
  obtain ⟨v, S, h1, h2, h3, h4, h5, h6⟩ := h
  obtain ⟨va, vc, rfl⟩ := h2.slice
  have c0 := (cell_of_row _ _ 0 _ _ _ h1).trans rfl
  have HRD := hid (h2.rd.mono (S' := fun k => k < w.heap.size) fun k _ hl => hl)
  clear h1 h2 h3 h4 h5 h6
  go_enter Try.func82, Try.ntmps82
  go_wp2_with fail
  go_loopw [3, 4] (fun u3 u4 wr => ∃ i : Nat, u4 = .int .i64 i ∧ i ≤ L.length ∧ OwnS rS 9 wr w.heap.size (fun _ => False) u3 (namesR (L.take i)) ∧ Ext w wr) (fun _ u4 _ => L.length - (intOf u4).toNat)
  case atStart => exact ⟨0, rfl, Nat.zero_le _, OwnS.nil _ _ _ _ _, Ext.refl _⟩
  case round =>
    obtain ⟨i, rfl, hi, hown, hx⟩ := hrel
    have HO := hid hown
    have HX := hid hx
    have d0 := Ext.cellS hx c0
    have hnl := namesR_len (L.take i) []
    by_cases hlt : i < L.length
    · obtain ⟨gb, ob, cb, ev, e, hgb, -, b0, b1, b2, b3, k1, k2, hev⟩ := (HRD.out.ext hx).atBat i hlt
      simp only [Value.slice.injEq] at e
      obtain ⟨rfl, -, rfl⟩ := e
      have HT := hid (show namesR (L.take (i + 1)) = insF (namesR (L.take i)) L[i].1 by rw [← List.take_append_getElem hlt, namesR_snoc])
      generalize L[i] = b at b0 b1 b2 b3 k1 k2 hev HT
      obtain ⟨s, bk, bf, be⟩ := b
      dsimp only at b0 b1 b2 b3 k1 k2 hev HT
      obtain ⟨l, hl⟩ : ∃ l, namesR (L.take i) = l := ⟨_, rfl⟩
      have hll : l.length ≤ 100000 := by rw [← hl]; have := List.length_take_le i L; unfold namesR; simp at hnl; omega
      rw [hl] at hown HO HT
      obtain ⟨oa, oc, hov⟩ := hown.slice
      subst hov
      have i1 : (i : Int) < (L.length : Int) := by omega
      have hw1 : IntKind.i64.wrap ((i : Int) + 1) = (i : Int) + 1 := by rw [IntKind.wrap_i64]; omega
      clear hown hx hev k2 hl hnl
      go_wp2_with fail
      have hile := insAt_le s l
      go_loopw [6] (fun u6 wq => ∃ k : Nat, u6 = .int .i64 k ∧ k ≤ insAt s l ∧ wq = wr) (fun u6 _ => l.length - (intOf u6).toNat)
      case atStart => exact ⟨0, rfl, Nat.zero_le _, rfl⟩
      case round =>
        obtain ⟨k, rfl, hk, rfl⟩ := hrel
        by_cases hki : k < insAt s l
        · have hkl : k < l.length := by omega
          obtain ⟨go, oo, co, e, hgo, -, q0, -⟩ := HO.out.rd.atS k hkl
          simp only [Value.slice.injEq] at e
          obtain ⟨rfl, -, rfl⟩ := e
          have hcmp : Op.bytesLess l[k].toList s.toList = true := by rw [less_bs]; exact decide_eq_true (insAt_lt s l k hkl hki)
          generalize l[k] = a at q0 hcmp
          have i2 : (k : Int) < (l.length : Int) := by omega
          have hw2 : IntKind.i64.wrap ((k : Int) + 1) = (k : Int) + 1 := by rw [IntKind.wrap_i64]; omega
          go_wp2_with fail
          exact ⟨⟨k + 1, rfl, by omega, trivial⟩, by simp only [intOf]; omega⟩
        · obtain rfl : k = insAt s l := by omega
          clear hk hki
          obtain ⟨k, hk⟩ : ∃ k, insAt s l = k := ⟨_, rfl⟩
          have hge : ∀ (h : k < l.length), Op.bytesLess l[k].toList s.toList = false := fun h => by
            subst hk; rw [less_bs]; exact decide_eq_false (insAt_ge s l h)
          rw [hk] at hile ⊢
          by_cases hfound : ∃ h : k < l.length, l[k] = s
          · obtain ⟨hkl, hks⟩ := hfound
            have HT2 := hid (HT.out.trans (show insF l s = l by unfold insF; rw [hk, if_pos (by rw [List.getElem?_eq_getElem hkl, hks])]))
            obtain ⟨go, oo, co, e, hgo, -, q0, -⟩ := HO.out.rd.atS k hkl
            simp only [Value.slice.injEq] at e
            obtain ⟨rfl, -, rfl⟩ := e
            have hcmp := hge hkl
            rw [hks] at q0 hcmp
            have e1 := str_tt (a := s) rfl
            have i2 : (k : Int) < (l.length : Int) := by omega
            clear hge hks HT hk
            go_wp2_with fail
            exact ⟨⟨i + 1, rfl, by omega, by rw [HT2.out]; exact HO.out, HX.out⟩, by simp only [intOf]; omega⟩
          · have HT2 := hid (HT.out.trans (show insF l s = l.take k ++ s :: l.drop k by
              unfold insF; rw [hk, if_neg (fun e => hfound (by obtain ⟨h, e⟩ := List.getElem?_eq_some_iff.1 e; exact ⟨h, e⟩))]))
            have hcase : ¬ k < l.length ∨ ∃ h : k < l.length, l[k] ≠ s := by
              by_cases h : k < l.length
              · exact .inr ⟨h, fun e => hfound ⟨h, e⟩⟩
              · exact .inl h
            have HK1 := hid k1
            clear hfound HT hk
            have hfac : (¬ (k : Int) < (l.length : Int)) ∨ ((k : Int) < (l.length : Int) ∧ ∃ go oo a, oa = some ⟨go, oo, none⟩ ∧ wr.cell? ⟨go, oo + k, none⟩ = some (.string a) ∧ Op.bytesLess a.toList s.toList = false ∧ (a.toList == s.toList) = false) := by
              rcases hcase with h | ⟨h, h2⟩
              · exact .inl (by omega)
              · obtain ⟨go, oo, co, e, hgo, -, q0, -⟩ := HO.out.rd.atS k h
                simp only [Value.slice.injEq] at e
                exact .inr ⟨by omega, go, oo, _, e.1, q0, hge h, str_ff h2⟩
            have HSZ := hid HX.out.size
            have hw4 : IntKind.i64.wrap ((l.length : Int) + 1 - 1) = (l.length : Int) := by rw [IntKind.wrap_i64]; omega
            clear hcase hge
            rcases hfac with i2 | ⟨i2, go, oo, a, rfl, q0, q1, q2⟩
            all_goals
              go_wp2_with (at_builtin; refine wl_app1 rS rfl _ _ _ _ _ 16 rfl Try.underlying66 infoStr1 rfl w.heap.size (fun _ => False) ?_ _ l rfl (HO.out.ext ((Ext.refl wr).alloc _)) [.string s] s ⟨rfl, HK1.out⟩ _ rfl (heap_alloc_new _ _) (fun _ h => h.elim) ?_ ?_ ?_; (have := HSZ.out; simp only [heap_alloc_sz]; omega); omega; omega; intro v6 w6 k1 k2 k3; obtain ⟨va6, vc6, hv6⟩ := k1.slice; rw [List.length_append, List.length_singleton] at hv6; subst hv6; have K1 := hid k1; have K2 := hid k2; clear k1 k2 k3)
              have hx6 : Ext w w6 := Keep.ext ((((HX.out.alloc _).keep (fun k => k < w.heap.size)).trans ((keep_grown K2.out).mono fun j hj _ e => by have := (HO.out.lt j e.symm).1; omega)).mono fun k _ hl => hl)
              have HX6 := hid hx6
              clear hx6
              go_loopw [7] (fun u7 wq => ∃ j : Nat, u7 = .int .i64 j ∧ k ≤ j ∧ j ≤ l.length ∧ OwnS rS 9 wq w.heap.size (fun _ => False) (.slice va6 (l.length + 1) vc6) (shX l s j) ∧ Ext w wq) (fun u7 _ => (intOf u7).toNat)
              case atStart => exact ⟨l.length, rfl, hile, Nat.le_refl _, by rw [shX_zero]; exact K1.out, HX6.out⟩
              case round =>
                obtain ⟨j, rfl, hj1, hj2, hown, hx⟩ := hrel
                have HW := hid hown
                have HXJ := hid hx
                have hlen := shX_len l s j hj2
                obtain ⟨gw, cw, cur, e, hgw, hgl, -, hrow⟩ := hown.headS (by rw [hlen]; omega)
                rw [hlen] at e
                simp only [Value.slice.injEq] at e
                obtain ⟨rfl, -, rfl⟩ := e
                have fr := fun t => frozen_blk hrow t
                by_cases hjk : k < j
                · first
                    | (exfalso; omega)
                    | (obtain ⟨jp, hjp⟩ : ∃ jp, j = jp + 1 := ⟨j - 1, by omega⟩
                       have hat : ∀ (t : Nat) (ht : t < (shX l s j).length), wr.cell? ⟨gw, t, none⟩ = some (.string (shX l s j)[t]) := fun t ht => by
                         obtain ⟨g2, o2, c2, e2, -, -, z0, -⟩ := hown.rd.atS t ht
                         simp only [Value.slice.injEq, Option.some.injEq, Addr.mk.injEq] at e2
                         obtain ⟨⟨rfl, rfl, -⟩, -, -⟩ := e2
                         rw [Nat.zero_add] at z0
                         exact z0
                       have z1 := hat jp (by rw [hlen]; omega)
                       have z2 := hat j (by rw [hlen]; omega)
                       have hgj : (shX l s j)[jp]'(by rw [hlen]; omega) = l[jp]'(by omega) := by subst hjp; exact shX_at l s jp (by omega)
                       rw [hgj] at z1
                       have hst := hown.set1 rfl j (by rw [hlen]; omega) (.string (l[jp]'(by omega))) (l[jp]'(by omega)) ⟨rfl, by
                         obtain ⟨_, _, _, _, _, _, _, hsz⟩ := HO.out.rd.atS jp (by omega)
                         exact hsz⟩
                       have hst2 : (shX l s j).set j (l[jp]'(by omega)) = shX l s jp := by subst hjp; exact shX_step l s jp (by omega)
                       rw [hst2] at hst
                       have HST := hid hst
                       generalize l[jp] = a2 at z1 HST
                       generalize (shX l s j)[j] = a3 at z2
                       have fj := fr j
                       have hw5 : IntKind.i64.wrap ((j : Int) - 1) = (jp : Int) := by rw [IntKind.wrap_i64]; omega
                       have hw6 : (j : Int) - 1 = (jp : Int) := by omega
                       have i3 : (k : Int) < (j : Int) := by omega
                       have i4 : (jp : Int) < (l.length : Int) + 1 := by omega
                       have i5 : (j : Int) < (l.length : Int) + 1 := by omega
                       have HJP := hid hjp
                       clear hown hx hlen hrow fr hat hgj hst hst2 hjp
                       go_wp2_with fail
                       exact ⟨⟨jp, rfl, by have := HJP.out; omega, by have := HJP.out; omega, HST.out, HXJ.out.setCell (p := ⟨gw, j, none⟩) hgw _⟩, by have := HJP.out; simp only [intOf]; omega⟩)
                · obtain rfl : j = k := by omega
                  have i3 : ¬ (j : Int) < (j : Int) := by omega
                  obtain ⟨g2, o2, c2, e2, -, -, z0, -⟩ := hown.rd.atS j (by rw [hlen]; omega)
                  simp only [Value.slice.injEq, Option.some.injEq, Addr.mk.injEq] at e2
                  obtain ⟨⟨rfl, rfl, -⟩, -, -⟩ := e2
                  rw [Nat.zero_add] at z0
                  have hst := hown.set1 rfl j (by rw [hlen]; omega) (.string s) s ⟨rfl, HK1.out⟩
                  rw [shX_end l s j hj2, ← HT2.out] at hst
                  have HST := hid hst
                  generalize (shX l s j)[j] = a3 at z0
                  have fj := fr j
                  have i5 : (j : Int) < (l.length : Int) + 1 := by omega
                  clear hown hx hlen hrow fr hst
                  go_wp2_with fail
                  exact ⟨⟨i + 1, rfl, by omega, HST.out, HXJ.out.setCell (p := ⟨gw, j, none⟩) hgw _⟩, by simp only [intOf]; omega⟩
    · obtain rfl : i = L.length := by omega
      have i1 : ¬ (L.length : Int) < (L.length : Int) := by omega
      rw [List.take_length] at HO hown
      obtain ⟨oa, oc, hov⟩ := hown.slice
      subst hov
      clear hown hx
      go_wp2_with fail
      go_ret
      exact ⟨_, rfl, HO.out, HX.out⟩
end Go.Proofs.Ythobhkmphjnlaaa

/- Names, and what stays so while batches are added: plain. -/
namespace Go.Proofs.Ythobhkmphjnlaaa
set_option linter.unusedVariables false
set_option linter.unusedSimpArgs false

def LtB (a b : ByteArray) : Prop := a.data.toList < b.data.toList
theorem LtB.trans {a b c : ByteArray} (h : LtB a b) (k : LtB b c) : LtB a c := List.lt_trans h k
theorem LtB.irrefl (a : ByteArray) : ¬ LtB a a := List.lt_irrefl _
theorem LtB.tri {a b : ByteArray} (h : ¬ LtB a b) (hn : a ≠ b) : LtB b a := by
  unfold LtB at *
  have h1 : b.data.toList ≤ a.data.toList := List.not_lt.1 h
  rcases List.le_iff_lt_or_eq.1 h1 with h2 | h2
  · exact h2
  · exfalso; apply hn
    have := congrArg List.toArray h2
    simp at this
    exact (ByteArray.ext this).symm
theorem insF_mem (l : List ByteArray) (s t : ByteArray) : t ∈ insF l s ↔ t ∈ l ∨ t = s := by
  unfold insF
  split
  · rename_i h
    have := List.mem_of_getElem? h
    constructor
    · exact .inl
    · rintro (h | rfl) <;> assumption
  · rw [List.mem_append, List.mem_cons]
    constructor
    · rintro (h | rfl | h)
      · exact .inl (List.mem_of_mem_take h)
      · exact .inr rfl
      · exact .inl (List.mem_of_mem_drop h)
    · rintro (h | rfl)
      · rw [← List.take_append_drop (insAt s l) l, List.mem_append] at h
        exact h.elim .inl fun h => .inr (.inr h)
      · exact .inr (.inl rfl)
theorem insF_sorted {l : List ByteArray} (h : l.Pairwise LtB) (s : ByteArray) : (insF l s).Pairwise LtB := by
  unfold insF
  split
  · exact h
  · rename_i hne
    rw [← List.take_append_drop (insAt s l) l] at h
    obtain ⟨h1, h2, h3⟩ := List.pairwise_append.1 h
    have hlo : ∀ a ∈ l.take (insAt s l), LtB a s := fun a ha => by
      obtain ⟨i, hi, rfl⟩ := List.mem_iff_getElem.1 ha
      rw [List.length_take] at hi
      rw [List.getElem_take]
      exact insAt_lt s l i (by omega) (by omega)
    have hhi : ∀ a ∈ l.drop (insAt s l), LtB s a := by
      intro a ha
      by_cases hk : insAt s l < l.length
      · rw [List.drop_eq_getElem_cons hk] at ha h2
        have hge := insAt_ge s l hk
        have hn : l[insAt s l] ≠ s := fun e => hne (by rw [List.getElem?_eq_getElem hk, e])
        have h0 : LtB s l[insAt s l] := LtB.tri hge hn
        rcases List.mem_cons.1 ha with rfl | ha
        · exact h0
        · exact h0.trans ((List.pairwise_cons.1 h2).1 a ha)
      · rw [List.drop_eq_nil_of_le (by omega)] at ha; cases ha
    refine List.pairwise_append.2 ⟨h1, List.pairwise_cons.2 ⟨hhi, h2⟩, fun a ha b hb => ?_⟩
    rcases List.mem_cons.1 hb with rfl | hb
    · exact hlo a ha
    · exact h3 a ha b hb
theorem namesR_mem : ∀ (L : List Bat) (l : List ByteArray) (t : ByteArray), t ∈ L.foldl (fun l b => insF l b.1) l ↔ t ∈ l ∨ ∃ b ∈ L, b.1 = t
  | [], l, t => by simp
  | b :: L, l, t => by
    rw [List.foldl_cons, namesR_mem L, insF_mem]
    constructor
    · rintro ((h | rfl) | ⟨c, hc, rfl⟩)
      · exact .inl h
      · exact .inr ⟨b, by simp, rfl⟩
      · exact .inr ⟨c, by simp [hc], rfl⟩
    · rintro (h | ⟨c, hc, rfl⟩)
      · exact .inl (.inl h)
      · rcases List.mem_cons.1 hc with rfl | hc
        · exact .inl (.inr rfl)
        · exact .inr ⟨c, hc, rfl⟩
theorem namesR_sorted : ∀ (L : List Bat) (l : List ByteArray), l.Pairwise LtB → (L.foldl (fun l b => insF l b.1) l).Pairwise LtB
  | [], l, h => h
  | b :: L, l, h => namesR_sorted L _ (insF_sorted h b.1)
theorem sorted_eq : ∀ (l m : List ByteArray), l.Pairwise LtB → m.Pairwise LtB → (∀ s, s ∈ l ↔ s ∈ m) → l = m
  | [], [], _, _, _ => rfl
  | [], b :: m, _, _, h => by have := (h b).2 (by simp); cases this
  | a :: l, [], _, _, h => by have := (h a).1 (by simp); cases this
  | a :: l, b :: m, h1, h2, h => by
    obtain ⟨p1, p2⟩ := List.pairwise_cons.1 h1
    obtain ⟨q1, q2⟩ := List.pairwise_cons.1 h2
    have hab : a = b := by
      rcases List.mem_cons.1 ((h a).1 (by simp)) with e | e
      · exact e
      · rcases List.mem_cons.1 ((h b).2 (by simp)) with e2 | e2
        · exact e2.symm
        · exact absurd ((q1 a e).trans (p1 b e2)) (LtB.irrefl b)
    subst hab
    congr 1
    refine sorted_eq l m p2 q2 fun s => ⟨fun hs => ?_, fun hs => ?_⟩
    · rcases List.mem_cons.1 ((h s).1 (by simp [hs])) with e | e
      · subst e; exact absurd (p1 s hs) (LtB.irrefl s)
      · exact e
    · rcases List.mem_cons.1 ((h s).2 (by simp [hs])) with e | e
      · subst e; exact absurd (q1 s hs) (LtB.irrefl s)
      · exact e
/-- what stays so -/
structure LInv (L : List Bat) (n : Nat) : Prop where
  len : L.length ≤ n
  ev : evN L ≤ 16 * n
  ok : ∀ b ∈ L, nameOk b.1 = true ∧ rightF b.2.2.2 = true ∧ 0 ≤ b.2.2.1 ∧ b.2.2.1 ≤ 16 * n
theorem LInv.zero : LInv [] 0 := ⟨Nat.le_refl _, Nat.le_refl _, fun b hb => by cases hb⟩
theorem LInv.mono {L : List Bat} {n m : Nat} (h : LInv L n) (hm : n ≤ m) : LInv L m :=
  ⟨Nat.le_trans h.len hm, Nat.le_trans h.ev (by omega), fun b hb => by obtain ⟨h1, h2, h3, h4⟩ := h.ok b hb; exact ⟨h1, h2, h3, by omega⟩⟩
theorem LInv.bok {L : List Bat} {n : Nat} (h : LInv L n) (hn : n ≤ 6000) : BOk L := fun b hb => by
  obtain ⟨h1, h2, h3, h4⟩ := h.ok b hb
  exact ⟨h3, by omega, (rightF_len h2).2.2⟩
theorem LInv.add {L : List Bat} {n : Nat} (h : LInv L n) (b : Bat) : LInv (addR L b).1 (n + 1) := by
  unfold addR
  by_cases h1 : namedF b.1 b.2.1 = false
  · rw [if_pos h1]; exact h.mono (by omega)
  rw [if_neg h1]
  by_cases h2 : (keyR b.2.1 L 0).2.2 = true
  · rw [if_pos h2]; exact h.mono (by omega)
  rw [if_neg h2]
  by_cases h3 : rightF b.2.2.2 = false
  · rw [if_pos h3]; exact h.mono (by omega)
  rw [if_neg h3]
  by_cases h4 : b.2.2.1 ≠ ((ofF (entsF L) b.1).length : Int)
  · rw [if_pos h4]; exact h.mono (by omega)
  rw [if_neg h4]
  have h4' : b.2.2.1 = ((ofF (entsF L) b.1).length : Int) := Classical.not_not.1 h4
  have h3' : rightF b.2.2.2 = true := by
    cases hh : rightF b.2.2.2 with
    | true => rfl
    | false => exact absurd hh h3
  have h1' : nameOk b.1 = true := by
    cases hh : nameOk b.1 with
    | true => rfl
    | false => exact absurd (by unfold namedF; rw [hh]; rfl) h1
  have hl := (rightF_len h3').2.2
  have hle := ofF_len (entsF L) b.1
  have hev := h.ev
  unfold evN at hev
  refine ⟨by simp; exact h.len, by rw [evN_snoc]; have := h.ev; omega, fun c hc => ?_⟩
  rcases List.mem_append.1 hc with hc | hc
  · obtain ⟨q1, q2, q3, q4⟩ := h.ok c hc
    exact ⟨q1, q2, q3, by omega⟩
  · obtain rfl := List.mem_singleton.1 hc
    exact ⟨h1', h3', by omega, by omega⟩
theorem Rel.names {x : Ix} {L : List Bat} {n : Nat} (h : Rel x L) (hi : LInv L n) {l : List ByteArray} (hl : NamesAre x l) : l = namesR L := by
  refine sorted_eq l _ hl.1 (namesR_sorted L [] List.Pairwise.nil) fun s => ?_
  rw [hl.2]
  unfold namesR
  rw [namesR_mem, h.nm]
  constructor
  · rintro ⟨_, h2⟩; exact .inr h2
  · rintro (h2 | ⟨b, hb, rfl⟩)
    · cases h2
    · refine ⟨?_, b, hb, rfl⟩
      obtain ⟨q1, _⟩ := hi.ok b hb
      unfold nameOk at q1
      have := of_decide_eq_true q1
      unfold maxLen; omega
theorem pushB_fields (s : ByteArray) : ∀ (l : List Ev) (out : List Ent) (n : Int), (∀ e ∈ out, e.2.2.2.2.2.length ≤ 16) → (∀ e ∈ l, e.2.2.length ≤ 16) → ∀ e ∈ pushB s out n l, e.2.2.2.2.2.length ≤ 16
  | [], out, n, h1, h2 => h1
  | x :: l, out, n, h1, h2 => pushB_fields s l _ _ (fun e he => by
      rcases List.mem_append.1 he with he | he
      · exact h1 e he
      · obtain rfl := List.mem_singleton.1 he; exact h2 x (by simp)) fun e he => h2 e (by simp [he])
theorem entsF_fields (L : List Bat) : ∀ (out : List Ent), (∀ e ∈ out, e.2.2.2.2.2.length ≤ 16) → (∀ b ∈ L, rightF b.2.2.2 = true) → ∀ e ∈ L.foldl (fun out b => pushB b.1 out b.2.2.1 b.2.2.2) out, e.2.2.2.2.2.length ≤ 16 := by
  induction L with
  | nil => exact fun out h _ => h
  | cons b L ih =>
    intro out h1 h2
    rw [List.foldl_cons]
    refine ih _ (pushB_fields _ _ _ _ h1 fun e he => ?_) fun c hc => h2 c (by simp [hc])
    exact (evOk_fields ((rightF_len (h2 b (by simp))).1 e he)).1
theorem Rel.fields {x : Ix} {L : List Bat} {n : Nat} (h : Rel x L) (hi : LInv L n) : ∀ e ∈ x.all, e.2.2.2.2.2.length ≤ 1000000 := fun e he => by
  rw [h.all] at he
  have := entsF_fields L [] (by simp) (fun b hb => (hi.ok b hb).2.1) e he
  omega
end Go.Proofs.Ythobhkmphjnlaaa

/- cartularylaw10's spoil: what is written over. -/
namespace Go.Proofs.Ythobhkmphjnlaaa
open Go.RowKit Go.Maps
set_option linter.unusedVariables false
set_option linter.unusedSimpArgs false

/-- rows stand, whatever they hold -/
def Shp (w0 w : World) : Prop := ∀ (k : Nat) (t : TypeId) (cur : Array Value), w0.heap[k]? = some (Obj.cells cur t (0, 0)) → ∃ cur' : Array Value, w.heap[k]? = some (Obj.cells cur' t (0, 0)) ∧ cur'.size = cur.size
theorem Shp.refl (w : World) : Shp w w := fun k t cur h => ⟨cur, h, rfl⟩
theorem Shp.set {w0 w : World} (h : Shp w0 w) (g o : Nat) (v : Value) : Shp w0 (w.setCell ⟨g, o, none⟩ v) := fun k t cur hk => by
  obtain ⟨c1, h1, h2⟩ := h k t cur hk
  by_cases e : k = g
  · subst e
    exact ⟨_, set_blk h1 v, by simp [h2]⟩
  · exact ⟨c1, (Below.heap_setCell _ _ _ _ e).trans h1, h2⟩
theorem Shp.cell {w0 w : World} (h : Shp w0 w) {k j : Nat} {t : TypeId} {cur : Array Value} {x : Value} (hk : w0.heap[k]? = some (Obj.cells cur t (0, 0))) (hx : w0.cell? ⟨k, j, none⟩ = some x) : (∃ y, w.cell? ⟨k, j, none⟩ = some y) ∧ w.frozen? ⟨k, j, none⟩ = false := by
  obtain ⟨c1, h1, h2⟩ := h k t cur hk
  rw [cell_of_row _ _ _ _ _ _ hk] at hx
  have hj : j < cur.size := (Array.getElem?_eq_some_iff.1 hx).1
  exact ⟨⟨c1[j]'(by omega), by rw [cell_of_row _ _ _ _ _ _ h1, Array.getElem?_eq_getElem]⟩, frozen_blk h1 j⟩
theorem setCell_other {w : World} {g o g' o' : Nat} {v : Value} (h : ¬ (g = g' ∧ o = o')) : (w.setCell ⟨g, o, none⟩ v).cell? ⟨g', o', none⟩ = w.cell? ⟨g', o', none⟩ := by
  apply World.cell?_setCell_other
  intro e
  simp only [Addr.mk.injEq, and_true] at e
  exact h e
theorem RdEs.at {w : World} {S : Nat → Prop} {v : Value} {es : List Ev} (h : RdEs w S v es) (i : Nat) (hi : i < es.length) :
    ∃ g o cap fv cur, v = .slice (some ⟨g, o, none⟩) es.length cap ∧ S g ∧ w.heap[g]? = some (Obj.cells cur 46 (0, 0)) ∧ w.cell? ⟨g, o + i * 3, none⟩ = some (.string es[i].1) ∧ w.cell? ⟨g, o + i * 3 + 1, none⟩ = some (.int .i64 es[i].2.1) ∧
      w.cell? ⟨g, o + i * 3 + 2, none⟩ = some fv ∧ RdSO rF 108 w S fv es[i].2.2 := by
  obtain ⟨g, o, cap, cs, e, hg, hS, _, hc, hr⟩ := (RdSO.rd h).at i hi
  obtain ⟨c1, c2, rfl, ⟨rfl, h1⟩, c3, c4, rfl, ⟨rfl, h2⟩, h3⟩ := hr
  obtain ⟨fv, rfl, h4, h5⟩ := h3
  subst e
  obtain ⟨-, cur, h6⟩ := RdSO.row h g rfl
  refine ⟨g, o, cap, fv, cur, rfl, hS, h6, ?_, ?_, ?_, ⟨fv, rfl, h4, h5⟩⟩
  · have := hc 0 _ rfl; rw [Nat.add_zero] at this; exact this
  · have := hc 1 _ rfl; rw [Nat.add_assoc]; exact this
  · have := hc 2 _ rfl; rw [Nat.add_assoc]; exact this
theorem fld_row {w : World} {S : Nat → Prop} {fv : Value} {fs : List Fld} (h : RdSO rF 108 w S fv fs) (k : Nat) (hk : k < fs.length) :
    ∃ g o cap cur, fv = .slice (some ⟨g, o, none⟩) fs.length cap ∧ S g ∧ w.heap[g]? = some (Obj.cells cur 108 (0, 0)) ∧ (∃ y, w.cell? ⟨g, o + k * 4, none⟩ = some y) ∧ (∃ y, w.cell? ⟨g, o + k * 4 + 1, none⟩ = some y) ∧ (∃ y, w.cell? ⟨g, o + k * 4 + 2, none⟩ = some y) ∧ ∃ y, w.cell? ⟨g, o + k * 4 + 3, none⟩ = some y := by
  obtain ⟨g, o, cap, e, hg, hS, q0, q1, q2, q3, -⟩ := (RdSO.rd h).atF k hk
  subst e
  obtain ⟨-, cur, h6⟩ := RdSO.row h g rfl
  exact ⟨g, o, cap, cur, rfl, hS, h6, ⟨_, q0⟩, ⟨_, q1⟩, ⟨_, q2⟩, ⟨_, q3⟩⟩

set_option maxRecDepth 100000 in
set_option maxHeartbeats 2000000 in
theorem spoil_any (w : World) (S : Nat → Prop) (v : Value) (l : List Ev) (h : RdEs w S v l) :
    Calls Try.prog 77 #[v] w fun e w' => e = .returned (.tuple #[]) ∧ Keep (fun k => ¬ S k) w w' := by
  obtain ⟨va, vc, rfl, hle1, hle2⟩ := RdSO.slice h
  have H := hid h
  clear h
  go_enter Try.func77, Try.ntmps77
  go_wp2_with fail
  go_loopw [2] (fun u2 wr => ∃ i : Nat, u2 = .int .i64 i ∧ i ≤ l.length ∧ Shp w wr ∧ (∀ g o, va = some ⟨g, o, none⟩ → ∀ j, i * 3 ≤ j → wr.cell? ⟨g, o + j, none⟩ = w.cell? ⟨g, o + j, none⟩) ∧ Keep (fun k => ¬ S k) w wr) (fun u2 _ => l.length - (intOf u2).toNat)
  case atStart => exact ⟨0, rfl, Nat.zero_le _, Shp.refl _, fun _ _ _ _ _ => rfl, Keep.refl _ _⟩
  case round =>
    obtain ⟨i, rfl, hi, hshp, hun, hk⟩ := hrel
    by_cases hlt : i < l.length
    · obtain ⟨g, o, cap, fv, cur, e, hSg, hrow, q0, q1, q2, hfv⟩ := H.out.at i hlt
      simp only [Value.slice.injEq] at e
      obtain ⟨rfl, -, rfl⟩ := e
      have c2 : wr.cell? ⟨g, o + i * 3 + 2, none⟩ = some fv := by
        have := hun g o rfl (i * 3 + 2) (by omega)
        rw [← Nat.add_assoc] at this
        rw [this]; exact q2
      obtain ⟨fa, fc, rfl, hf1, hf2⟩ := RdSO.slice hfv
      have HF := hid hfv
      have HROW := hid hrow
      have HUN := hid hun
      have HSG := hid hSg
      have HQ := hid (show w.cell? ⟨g, o + i * 3, none⟩ = _ ∧ w.cell? ⟨g, o + i * 3 + 1, none⟩ = _ from ⟨q0, q1⟩)
      have HQ2 := hid q2
      generalize l[i] = ev at HF hf1 q0 q1 HQ HQ2 c2
      obtain ⟨et, en, ef⟩ := ev
      dsimp only at HF hf1 q0 q1 HQ HQ2 c2
      have i1 : (i : Int) < (l.length : Int) := by omega
      have hw1 : IntKind.i64.wrap ((i : Int) + 1) = (i : Int) + 1 := by rw [IntKind.wrap_i64]; omega
      have HSH := hid hshp
      have HK := hid hk
      clear hfv hrow hun hSg q0 q1 q2 hshp hk
      go_wp2_with fail
      go_loopw [3] (fun u3 wq => ∃ k : Nat, u3 = .int .i64 k ∧ k ≤ ef.length ∧ Shp w wq ∧ (∀ j, i * 3 ≤ j → wq.cell? ⟨g, o + j, none⟩ = w.cell? ⟨g, o + j, none⟩) ∧ Keep (fun k => ¬ S k) w wq) (fun u3 _ => ef.length - (intOf u3).toNat)
      case atStart => exact ⟨0, rfl, Nat.zero_le _, HSH.out, HUN.out g o rfl, HK.out⟩
      case round =>
        obtain ⟨k, rfl, hk, hshp, hun, hkk⟩ := hrel
        have c2 : wr.cell? ⟨g, o + i * 3 + 2, none⟩ = some (.slice fa ef.length fc) := by
          have := hun (i * 3 + 2) (by omega)
          rw [← Nat.add_assoc] at this
          rw [this]; exact HQ2.out
        by_cases hlk : k < ef.length
        · obtain ⟨gf, of, cf, curf, e, hSf, hrf, ⟨y0, z0⟩, ⟨y1, z1⟩, ⟨y2, z2⟩, ⟨y3, z3⟩⟩ := fld_row HF.out k hlk
          simp only [Value.slice.injEq] at e
          obtain ⟨rfl, -, rfl⟩ := e
          have hgf : ¬ g = gf := fun e => by
            subst e
            have h1 := HROW.out
            rw [h1] at hrf
            simp at hrf
          have hgf' : ¬ gf = g := fun e => hgf e.symm
          obtain ⟨⟨a0, d0⟩, f0⟩ := hshp.cell hrf z0
          obtain ⟨⟨a1, d1⟩, f1⟩ := hshp.cell hrf z1
          obtain ⟨⟨a2, d2⟩, f2⟩ := hshp.cell hrf z2
          obtain ⟨⟨a3, d3⟩, f3⟩ := hshp.cell hrf z3
          have HNX := hid (show ∀ (v0 v1 v2 v3 : Value), Shp w ((((wr.setCell ⟨gf, of + k * 4, none⟩ v0).setCell ⟨gf, of + k * 4 + 1, none⟩ v1).setCell ⟨gf, of + k * 4 + 2, none⟩ v2).setCell ⟨gf, of + k * 4 + 3, none⟩ v3) ∧ (∀ j, i * 3 ≤ j → ((((wr.setCell ⟨gf, of + k * 4, none⟩ v0).setCell ⟨gf, of + k * 4 + 1, none⟩ v1).setCell ⟨gf, of + k * 4 + 2, none⟩ v2).setCell ⟨gf, of + k * 4 + 3, none⟩ v3).cell? ⟨g, o + j, none⟩ = w.cell? ⟨g, o + j, none⟩) ∧ Keep (fun k => ¬ S k) w ((((wr.setCell ⟨gf, of + k * 4, none⟩ v0).setCell ⟨gf, of + k * 4 + 1, none⟩ v1).setCell ⟨gf, of + k * 4 + 2, none⟩ v2).setCell ⟨gf, of + k * 4 + 3, none⟩ v3) from fun v0 v1 v2 v3 => ⟨(((hshp.set _ _ _).set _ _ _).set _ _ _).set _ _ _, fun j hj => by
            rw [setCell_other (fun e => hgf' e.1), setCell_other (fun e => hgf' e.1), setCell_other (fun e => hgf' e.1), setCell_other (fun e => hgf' e.1)]
            exact hun j hj, (((hkk.setCell (fun h => h hSf) _).setCell (fun h => h hSf) _).setCell (fun h => h hSf) _).setCell (fun h => h hSf) _⟩)
          have i2 : (k : Int) < (ef.length : Int) := by omega
          have hw2 : IntKind.i64.wrap ((k : Int) + 1) = (k : Int) + 1 := by rw [IntKind.wrap_i64]; omega
          clear hshp hun hkk z0 z1 z2 z3 hrf hSf
          go_wp2_with fail
          obtain ⟨n1, n2, n3⟩ := HNX.out (.string ⟨#[115, 112, 111, 105, 108, 116]⟩) (.bool false) (.int .i64 0) (.string ⟨#[]⟩)
          exact ⟨⟨k + 1, rfl, by omega, n1, n2, n3⟩, by simp only [intOf]; omega⟩
        · obtain rfl : k = ef.length := by omega
          have i2 : ¬ (ef.length : Int) < (ef.length : Int) := by omega
          obtain ⟨⟨a0, d0⟩, f0⟩ := hshp.cell HROW.out HQ.out.1
          obtain ⟨⟨a1, d1⟩, f1⟩ := hshp.cell HROW.out HQ.out.2
          obtain ⟨-, f2⟩ := hshp.cell HROW.out HQ2.out
          have HNX := hid (show ∀ (v0 v1 v2 : Value), Shp w (((wr.setCell ⟨g, o + i * 3, none⟩ v0).setCell ⟨g, o + i * 3 + 1, none⟩ v1).setCell ⟨g, o + i * 3 + 2, none⟩ v2) ∧ (∀ g' o', some (⟨g, o, none⟩ : Addr) = some ⟨g', o', none⟩ → ∀ j, (i + 1) * 3 ≤ j → (((wr.setCell ⟨g, o + i * 3, none⟩ v0).setCell ⟨g, o + i * 3 + 1, none⟩ v1).setCell ⟨g, o + i * 3 + 2, none⟩ v2).cell? ⟨g', o' + j, none⟩ = w.cell? ⟨g', o' + j, none⟩) ∧ Keep (fun k => ¬ S k) w (((wr.setCell ⟨g, o + i * 3, none⟩ v0).setCell ⟨g, o + i * 3 + 1, none⟩ v1).setCell ⟨g, o + i * 3 + 2, none⟩ v2) from fun v0 v1 v2 => ⟨((hshp.set _ _ _).set _ _ _).set _ _ _, fun g' o' e j hj => by
            simp only [Option.some.injEq, Addr.mk.injEq] at e
            obtain ⟨rfl, rfl, -⟩ := e
            rw [setCell_other (by omega), setCell_other (by omega), setCell_other (by omega)]
            exact hun j (by omega), ((hkk.setCell (fun h => h HSG.out) _).setCell (fun h => h HSG.out) _).setCell (fun h => h HSG.out) _⟩)
          clear hshp hun hkk
          go_wp2_with fail
          obtain ⟨n1, n2, n3⟩ := HNX.out (.string ⟨#[]⟩) (.int .i64 0) (.slice none 0 0)
          exact ⟨⟨i + 1, rfl, by omega, n1, n2, n3⟩, by simp only [intOf]; omega⟩
    · obtain rfl : i = l.length := by omega
      have i1 : ¬ (l.length : Int) < (l.length : Int) := by omega
      have HK := hid hk
      clear hshp hun hk
      go_wp2_with fail
      go_end0
      exact ⟨rfl, HK.out⟩
end Go.Proofs.Ythobhkmphjnlaaa
