/- cartularylaw10: own, held, entries, tried. -/
import Derived.Test.YthobhkmphjnlaaaPl2
import Derived.Test.YthobhkmphjnlaaaSameB
import Derived.Test.YthobhkmphjnlaaaOpnT
import Derived.Test.YthobhkmphjnlaaaStrH

/- cartularylaw10's own and held: events in memory of their own, with a mark. -/
namespace Go.Proofs.Ythobhkmphjnlaaa
open Go.RowKit Go.Maps
set_option linter.unusedVariables false
set_option linter.unusedSimpArgs false

def mine : Fld := (⟨#[109, 105, 110, 101]⟩, false, 0, ⟨#[]⟩)
/-- fields, with the owner's mark behind them -/
def rMkF : Rdr (List Fld) where
  size := 1
  rd w S cs xs := ∃ a c, cs = [.slice a xs.length c] ∧ xs.length + 1 ≤ c ∧ (rSlO rF 108).rd w S [.slice a (xs.length + 1) c] (xs ++ [mine])
  len h := by obtain ⟨a, c, rfl, _⟩ := h; rfl
  one h u hu := by obtain ⟨a, c, rfl, _⟩ := h; obtain rfl := List.mem_singleton.1 hu; rfl
  keep h hs hb hm := by
    obtain ⟨a, c, rfl, h1, h2⟩ := h
    exact ⟨a, c, rfl, h1, (rSlO rF _).keep h2 hs hb hm⟩
def rMkE : Rdr Ev := rPair rS (rPair rI rMkF)
theorem rMkE_size : rMkE.size = 3 := rfl
theorem cutAt_zero (ad : Option Addr) (cap size : Nat) : cutAt ad cap 0 size = ad := by
  unfold cutAt
  by_cases hc : cap = 0
  · rw [if_pos hc]
  · rw [if_neg hc]
    cases ad with
    | none => rfl
    | some a => simp [Addr.add]
theorem rMkF_weak {w : World} {S : Nat → Prop} {cs : List Value} {x : List Fld} (h : rMkF.rd w S cs x) : rFO.rd w S cs x := by
  obtain ⟨a, c, rfl, h1, v, e, h2, h3⟩ := h
  obtain rfl := List.singleton_inj.1 e
  have h4 := RdS.cut (show RdS rF w S (.slice a (x.length + 1) c) (x ++ [mine]) from h2) 0 x.length (Nat.zero_le _) (by simp)
  rw [cutAt_zero] at h4
  simp only [Nat.sub_zero, List.drop_zero] at h4
  rw [show (x ++ [mine]).take x.length = x by simp] at h4
  refine ⟨_, rfl, h4, fun k hk => h3 k ?_⟩
  cases a with
  | none => simp [Value.ownBlock] at hk
  | some a => exact hk
theorem rMkE_weak {w : World} {S : Nat → Prop} {cs : List Value} {x : Ev} (h : rMkE.rd w S cs x) : rEO.rd w S cs x := by
  obtain ⟨c1, c2, rfl, h1, c3, c4, rfl, h2, h3⟩ := h
  exact ⟨c1, _, rfl, h1, c3, _, rfl, h2, rMkF_weak h3⟩
abbrev RdMk (w : World) (S : Nat → Prop) (v : Value) (l : List Ev) : Prop := RdSO rMkE 46 w S v l
theorem RdMk.es {w : World} {S : Nat → Prop} {v : Value} {l : List Ev} (h : RdMk w S v l) : RdEs w S v l := by
  obtain ⟨v', e, h1, h2⟩ := h
  exact ⟨v', e, rSl_weak (r := rMkE) (r' := rEO) rfl rMkE_weak h1, h2⟩
theorem infoMk : (Try.prog.info? 46).map (fun i => (i.zero, i.size, i.bytes)) = some (some (.agg #[.string ⟨#[]⟩, .int .i64 0, .slice none 0 0]), rMkE.size, 48) := infoEvt
theorem infoFld1 : (Try.prog.info? 108).map (fun i => (i.zero, i.size, i.bytes)) = some (some (.agg #[.string ⟨#[]⟩, .bool false, .int .i64 0, .string ⟨#[]⟩]), rF.size, 48) := infoFld
theorem sizeFld02 : (Try.prog.info? 108).map (·.size) = some 4 := by kernel_rfl
theorem mine_rd (w : World) (S : Nat → Prop) : rF.rd w S [.string ⟨#[109, 105, 110, 101]⟩, .bool false, .int .i64 0, .string ⟨#[]⟩] mine :=
  ⟨[_], _, rfl, ⟨rfl, by decide⟩, [_], _, rfl, rfl, [_], _, rfl, ⟨rfl, by decide⟩, ⟨rfl, by decide⟩⟩

theorem mid2 {wb w5 w6 : World} {b n5 c5 : Nat} {a5 : Option Addr} {xs : List Fld} {Y Z : Obj} (hz : wb.heap.size = b) (K1 : OwnS rF 108 w5 b (fun _ => False) (.slice a5 n5 c5) xs) (K2 : (wb.alloc Y).grownBy w5 (Value.slice (some ⟨b, 0, none⟩) 0 0).ownBlock) (K4 : (w5.alloc Z).grownBy w6 (Value.slice a5 n5 c5).ownBlock) : Ext wb w6 := by
  have q1 : Ext wb w5 := Keep.ext ((((Ext.refl wb).alloc Y).keep (fun k => k < b)).trans ((keep_grown K2).mono fun k hk _ e => by simp only [Value.ownBlock, Option.map_some, Option.some.injEq] at e; omega) |>.mono fun k _ hl => by omega)
  exact Keep.ext ((((q1.alloc Z).keep (fun k => k < b)).trans ((keep_grown K4).mono fun k hk _ e => by have := (K1.lt k e.symm).1; omega)) |>.mono fun k _ hl => by omega)
theorem sliceMk {w : World} {b : Nat} {v : Value} {fs : List Fld} (h : OwnS rF 108 w b (fun _ => False) v (fs ++ [mine])) :
    ∃ a c, v = .slice a (fs.length + 1) c ∧ fs.length + 1 ≤ c ∧ OwnS rF 108 w b (fun _ => False) (.slice a (fs.length + 1) c) (fs ++ [mine]) := by
  obtain ⟨a, c, e, h1, h2⟩ := h.rd.slice
  simp only [List.length_append, List.length_cons, List.length_nil] at e h1
  subst e
  exact ⟨a, c, rfl, h1, h⟩
theorem mk_rd {w : World} {S : Nat → Prop} {t : ByteArray} {n : Int} {a : Option Addr} {c : Nat} {fs : List Fld} (h1 : t.size ≤ 9223372036854775807) (h2 : -9223372036854775808 ≤ n ∧ n ≤ 9223372036854775807) (h3 : fs.length + 1 ≤ c) (h4 : RdSO rF 108 w S (.slice a (fs.length + 1) c) (fs ++ [mine])) :
    rMkE.rd w S [.string t, .int .i64 n, .slice a fs.length c] (t, n, fs) := ⟨[_], _, rfl, ⟨rfl, h1⟩, [_], _, rfl, ⟨rfl, h2⟩, a, c, rfl, h3, h4⟩

theorem own_mid {w wr w6 : World} {S' : Nat → Prop} {oa a6 : Option Addr} {i oc c6 : Nat} {xs : List Ev} {t : ByteArray} {n : Int} {fs : List Fld} (HO : OwnS rMkE 46 wr w.heap.size S' (.slice oa i oc) xs) (hS : ∀ k, S' k → w.heap.size ≤ k ∧ k < wr.heap.size) (hw : w.heap.size ≤ wr.heap.size) (hx6 : Ext wr w6) (hrl : wr.heap.size < w6.heap.size)
    (k6 : OwnS rF 108 w6 (wr.heap.size + 1) (fun _ => False) (.slice a6 (fs.length + 1) c6) (fs ++ [mine])) (h1 : t.size ≤ 9223372036854775807) (h2 : -9223372036854775808 ≤ n ∧ n ≤ 9223372036854775807) (h3 : fs.length + 1 ≤ c6) (V : Value) (X : Obj) :
    Hid (OwnS rMkE 46 ((w6.setCell ⟨wr.heap.size, 2, none⟩ V).alloc X) w.heap.size (fun k => S' k ∨ (wr.heap.size ≤ k ∧ k < w6.heap.size)) (.slice oa i oc) xs) ∧ Hid (rMkE.rd ((w6.setCell ⟨wr.heap.size, 2, none⟩ V).alloc X) (fun k => S' k ∨ (wr.heap.size ≤ k ∧ k < w6.heap.size)) [.string t, .int .i64 n, .slice a6 fs.length c6] (t, n, fs)) ∧
      Hid (∀ k, (S' k ∨ (wr.heap.size ≤ k ∧ k < w6.heap.size)) → k < ((w6.setCell ⟨wr.heap.size, 2, none⟩ V).alloc X).heap.size) ∧ Hid (w.heap.size ≤ ((w6.setCell ⟨wr.heap.size, 2, none⟩ V).alloc X).heap.size) ∧ Hid (Ext wr ((w6.setCell ⟨wr.heap.size, 2, none⟩ V).alloc X)) ∧ Hid (∀ k, (S' k ∨ (wr.heap.size ≤ k ∧ k < w6.heap.size)) → w.heap.size ≤ k) ∧ Hid (((w6.setCell ⟨wr.heap.size, 2, none⟩ V).alloc X).heap[w6.heap.size]? = some X) := by
  have hz := hx6.size
  have hset : Keep (fun k => k ≠ wr.heap.size) w6 (w6.setCell ⟨wr.heap.size, 2, none⟩ V) := (Keep.refl _ _).setCell (by simp) _
  have hxw : Ext wr ((w6.setCell ⟨wr.heap.size, 2, none⟩ V).alloc X) := (hx6.setCell (p := ⟨wr.heap.size, 2, none⟩) (Nat.le_refl _) _).alloc _
  refine ⟨hid ?_, hid ?_, hid fun k hk => ?_, hid ?_, hid hxw, hid fun k hk => ?_, hid ?_⟩
  rotate_right
  · have := heap_alloc_new (w6.setCell ⟨wr.heap.size, 2, none⟩ V) X
    simpa using this
  · refine (HO.ext hxw).widen (fun k hk _ => .inl hk) fun k hk e => ?_
    have := HO.lt k hk
    obtain ⟨_, _, _, h5, _⟩ := HO
    rcases e with e | e
    · exact h5 k hk e
    · omega
  · refine mk_rd h1 h2 h3 (((k6.rdO.kept (hset.mono fun k hk _ e => ?_)).ext ((Ext.refl _).alloc X)).mono fun k hk _ => ?_)
    · subst e
      rcases hk with hk | hk
      · exact hk
      · have := (k6.lt _ hk).1; omega
    · rcases hk with hk | hk
      · exact hk.elim
      · have := k6.lt _ hk
        exact .inr ⟨by omega, this.2⟩
  · have : ((w6.setCell ⟨wr.heap.size, 2, none⟩ V).alloc X).heap.size = w6.heap.size + 1 := by simp
    rcases hk with hk | hk
    · have := hS k hk; omega
    · omega
  · have : ((w6.setCell ⟨wr.heap.size, 2, none⟩ V).alloc X).heap.size = w6.heap.size + 1 := by simp
    omega
  · rcases hk with hk | hk
    · exact (hS k hk).1
    · omega

set_option maxRecDepth 100000 in
set_option maxHeartbeats 4000000 in
theorem own10_any (w : World) (S : Nat → Prop) (v : Value) (l : List Ev) (h : RdS rE w S v l) (hl : l.length * 48 ≤ 140737488351232) (hf : ∀ e ∈ l, e.2.2.length * 48 ≤ 140737488351232) :
    Calls Try.prog 75 #[v] w fun e w' => ∃ v', e = .returned v' ∧ RdMk w' (fun k => w.heap.size ≤ k) v' l ∧ Ext w w' := by
  obtain ⟨va, vc, rfl, hle1, hle2⟩ := h.slice
  have H := hid h
  have HF := hid hf
  clear h hf
  go_enter Try.func75, Try.ntmps75
  go_wp2_with fail
  go_loopw [3, 4] (fun u3 u4 wr => ∃ i : Nat, ∃ S' : Nat → Prop, u4 = .int .i64 i ∧ i ≤ l.length ∧ OwnS rMkE 46 wr w.heap.size S' u3 (l.take i) ∧ (∀ k, S' k → w.heap.size ≤ k ∧ k < wr.heap.size) ∧ Ext w wr) (fun _ u4 _ => l.length - (intOf u4).toNat)
  case atStart => exact ⟨0, fun _ => False, rfl, Nat.zero_le _, OwnS.nil _ _ _ _ _, fun _ h => h.elim, Ext.refl _⟩
  case round =>
    obtain ⟨i, S', rfl, hi, hown, hS, hx⟩ := hrel
    have htl : (l.take i).length = i := by rw [List.length_take]; omega
    obtain ⟨oa, oc, rfl⟩ := hown.slice
    rw [htl] at hown
    rw [htl]
    have HO := hid hown
    have HOL := hid hown.lt
    have HSS := hid hS
    have HX := hid hx
    have HTL := hid htl
    clear hown hS htl
    by_cases hlt : i < l.length
    · obtain ⟨g, o, cap, fv, e, hg, -, d0, d1, d2, h1, h2, h3⟩ := (H.out.ext hx).atE i hlt
      simp only [Value.slice.injEq] at e
      obtain ⟨rfl, -, rfl⟩ := e
      have HTS := hid (List.take_succ_eq_append_getElem hlt)
      have hfl := HF.out l[i] (List.getElem_mem hlt)
      generalize l[i] = ev at d0 d1 d2 h1 h2 h3 HTS hfl
      obtain ⟨t, n, fs⟩ := ev
      dsimp only at d0 d1 d2 h1 h2 h3 HTS hfl
      obtain ⟨fa, fc, rfl, -, -⟩ := h3.slice
      have H3 := hid h3
      have H12 := hid (show t.size ≤ 9223372036854775807 ∧ (-9223372036854775808 ≤ n ∧ n ≤ 9223372036854775807) from ⟨h1, h2⟩)
      have i1 : (i : Int) < (l.length : Int) := by omega
      have hw1 : IntKind.i64.wrap ((i : Int) + 1) = (i : Int) + 1 := by rw [IntKind.wrap_i64]; omega
      have hgn1 : ¬ g = wr.heap.size := by omega
      have hgn2 : ¬ wr.heap.size = g := by omega
      clear h1 h2 h3 hx
      obtain ⟨wb, hwb⟩ : ∃ wb, wb = wr.alloc (.cells #[.string t, .int .i64 n, .slice fa fs.length fc] 46) := ⟨_, rfl⟩
      have hxb : Ext wr wb := by rw [hwb]; exact (Ext.refl _).alloc _
      have hzb : wb.heap.size = wr.heap.size + 1 := by rw [hwb]; simp
      have hrb : wb.heap[wr.heap.size]? = some (.cells #[.string t, .int .i64 n, .slice fa fs.length fc] 46 (0, 0)) := by rw [hwb]; exact heap_alloc_new _ _
      obtain ⟨gs, hgs, hsrc, hall⟩ := (H3.out.ext (hxb.alloc (.cells #[] 108))).src Try.underlying44
      have hgl : gs.length = fs.length := by rw [hgs, List.length_map]
      have HA := OwnS.made rF 108 wb (fun _ => False) (fun h => h)
      rw [hzb] at HA
      have HHA := hid HA
      have HHS := hid hsrc
      have HALL := hid (show ∀ p ∈ gs, rF.rd (wb.alloc (.cells #[] 108)) (fun _ => False) p.1 p.2 from fun p hp => rF_free (hall p hp))
      have HB1 := hid (show (([] : List Fld).length + gs.length) * 48 ≤ 140737488355328 by simp only [List.length_nil]; omega)
      have HB2 := hid (show ([] : List Fld).length + gs.length ≤ 9223372036854775807 by simp only [List.length_nil]; omega)
      have HB3 := hid (show (wr.heap.size + 1 ≤ (wb.alloc (.cells #[] 108)).heap.size) by simp; omega)
      have HB4 := hid (show (fs.length + 1) * 48 ≤ 140737488355328 by omega)
      have HB5 := hid (show fs.length + 1 ≤ 9223372036854775807 by omega)
      have HB6 := hid (show ((l.take i).length + 1) * 48 ≤ 140737488355328 ∧ (l.take i).length + 1 ≤ 9223372036854775807 by rw [HTL.out]; omega)
      have HGS := hid hgs
      have HXB := hid hxb
      have HRBX := hid hrb
      have HZX := hid hzb
      have HD := hid (show wr.cell? ⟨g, o + i * 3 + 2, none⟩ = _ from d2)
      have HZW := hid HX.out.size
      clear hgs hsrc hall hgl HA hxb hrb hzb hfl
      rw [hwb] at HHA HHS HALL HB3 HRBX HZX HXB
      clear hwb
      go_wp2_with (first
        | (at_builtin; first
          | (refine wl_appS rF rfl _ _ _ _ _ _ 48 rfl Try.underlying44 infoFld1 rfl (wr.heap.size + 1) (fun _ => False) _ [] rfl HHA.out _ gs rfl HHS.out HALL.out (fun _ h => h.elim) HB1.out HB2.out HB3.out ?_; intro v5 w5 k1 k2 k3; rw [List.nil_append, ← HGS.out] at k1; obtain ⟨a5, c5', hv5⟩ := k1.slice; subst hv5; have K1 := hid k1; have K2 := hid k2; have HZ5 := hid (Nat.le_trans HB3.out (Nat.le_trans (keep_grown k2).size (Ext.size ((Ext.refl w5).alloc (.cells #[.string ⟨#[109, 105, 110, 101]⟩, .bool false, .int .i64 0, .string ⟨#[]⟩] 108))))); clear k1 k2 k3 HHA HHS HALL HB3)
          | (refine wl_app1 rF rfl _ _ _ _ _ 48 rfl Try.underlying44 infoFld1 rfl (wr.heap.size + 1) (fun _ => False) HZ5.out _ fs rfl (K1.out.ext ((Ext.refl w5).alloc (.cells #[.string ⟨#[109, 105, 110, 101]⟩, .bool false, .int .i64 0, .string ⟨#[]⟩] 108))) [.string ⟨#[109, 105, 110, 101]⟩, .bool false, .int .i64 0, .string ⟨#[]⟩] mine (mine_rd _ _) _ rfl (heap_alloc_new _ _) (fun _ h => h.elim) HB4.out HB5.out ?_; intro v6 w6 k1 k4 k3; obtain ⟨a6, c6', hv6, q61, k6⟩ := sliceMk k1; subst hv6; have hx6 := mid2 HZX.out K1.out K2.out k4; have hx6w := HXB.out.trans hx6; have d2 := hx6w.cellS HD.out; have hr6 := (Below.block hx6 wr.heap.size (by rw [HZX.out]; exact Nat.lt_succ_self _)).trans HRBX.out; have r0 := (cell_of_row _ _ 0 _ _ _ hr6).trans rfl; have r1 := (cell_of_row _ _ 1 _ _ _ hr6).trans rfl; have r2 := (cell_of_row _ _ 2 _ _ _ hr6).trans rfl; have f2 := frozen_blk hr6 2; have K3 := hid k6; have X6 := hid hx6w; obtain ⟨M1, M2, M3, M4, M5, M6, M7⟩ := own_mid HO.out HSS.out HZW.out hx6w (Array.getElem?_eq_some_iff.1 hr6).1 k6 H12.out.1 H12.out.2 q61 (.slice a6 fs.length c6') (.cells #[.string t, .int .i64 n, .slice a6 fs.length c6'] 46); have HR6 := hid hr6; clear k1 k4 k3 k6 hx6 hx6w hr6)
          | (refine wl_app1 rMkE rfl _ _ _ _ _ 48 rfl Try.underlying23 infoMk rfl w.heap.size _ M4.out _ (l.take i) rfl M1.out [.string t, .int .i64 n, .slice a6 fs.length c6'] (t, n, fs) M2.out _ rfl M7.out M3.out HB6.out.1 HB6.out.2 ?_; intro v7 w7 k1 k2 k3; have Z1 := hid k1; have Z2 := hid k2; obtain ⟨a7, c7, hv7⟩ := k1.slice; subst hv7; clear k1 k2 k3))
        | ((with_reducible refine at_slice ?_); refine wl_slice_h rfl rfl Try.underlying44 sizeFld02 rfl rfl fs.length rfl ?_ ?_; omega; rw [cutAt_zero, Nat.sub_zero, Nat.sub_zero]))
      refine ⟨⟨i + 1, _, rfl, by omega, by rw [HTS.out]; have q := Z1.out; rw [List.length_append, HTL.out, List.length_singleton] at q; exact q, fun k hk => ⟨M6.out k hk, Nat.lt_of_lt_of_le (M3.out k hk) Z2.out.size⟩, ?_⟩, by simp only [intOf]; omega⟩
      exact Keep.ext ((((HX.out.trans M5.out).keep (fun k => k < w.heap.size)).trans ((keep_grown Z2.out).mono fun k hk _ e => by have := (HOL.out k e.symm).1; omega)).mono fun k _ hl => hl)
    · obtain rfl : i = l.length := by omega
      have i1 : ¬ (l.length : Int) < (l.length : Int) := by omega
      have hT : l.take l.length = l := List.take_length
      rw [hT] at HO
      clear hx
      go_wp2_with fail
      go_ret
      exact ⟨_, rfl, HO.out.rdO.mono (fun k hk _ => by
        rcases hk with hk | hk
        · exact (HSS.out k hk).1
        · exact (HOL.out k hk).1), HX.out⟩
end Go.Proofs.Ythobhkmphjnlaaa

/- cartularylaw10's held. -/
namespace Go.Proofs.Ythobhkmphjnlaaa
open Go.RowKit Go.Maps
set_option linter.unusedVariables false
set_option linter.unusedSimpArgs false

theorem RdMk.at {w : World} {S : Nat → Prop} {v : Value} {es : List Ev} (h : RdMk w S v es) (i : Nat) (hi : i < es.length) :
    ∃ g o cap fa fc, v = .slice (some ⟨g, o, none⟩) es.length cap ∧ w.cell? ⟨g, o + i * 3, none⟩ = some (.string es[i].1) ∧ w.cell? ⟨g, o + i * 3 + 1, none⟩ = some (.int .i64 es[i].2.1) ∧
      w.cell? ⟨g, o + i * 3 + 2, none⟩ = some (.slice fa es[i].2.2.length fc) ∧ es[i].2.2.length + 1 ≤ fc ∧ RdSO rF 108 w S (.slice fa (es[i].2.2.length + 1) fc) (es[i].2.2 ++ [mine]) ∧ RdSO rF 108 w S (.slice fa es[i].2.2.length fc) es[i].2.2 := by
  obtain ⟨g, o, cap, cs, e, hg, hS, _, hc, hr⟩ := (RdSO.rd h).at i hi
  obtain ⟨c1, c2, rfl, ⟨rfl, h1⟩, c3, c4, rfl, ⟨rfl, h2⟩, h3⟩ := hr
  have h6 := rMkF_weak h3
  obtain ⟨fa, fc, rfl, h4, h5⟩ := h3
  subst e
  refine ⟨g, o, cap, fa, fc, rfl, ?_, ?_, ?_, h4, h5, h6⟩
  · have := hc 0 _ rfl; rw [Nat.add_zero] at this; exact this
  · have := hc 1 _ rfl; rw [Nat.add_assoc]; exact this
  · have := hc 2 _ rfl; rw [Nat.add_assoc]; exact this

set_option maxRecDepth 100000 in
set_option maxHeartbeats 4000000 in
theorem held_any10 (w : World) (S T : Nat → Prop) (v lv : Value) (l : List Ev) (h : RdMk w S v l) (hl : RdS rE w T lv l) :
    Calls Try.prog 76 #[v, lv] w fun e w' => e = .returned (.bool true) ∧ Ext w w' := by
  obtain ⟨va, vc, rfl, hv1, hv2⟩ := RdSO.slice h
  obtain ⟨la, lc, rfl, -, -⟩ := hl.slice
  have H := hid h
  have HL := hid hl
  clear h hl
  go_enter Try.func76, Try.ntmps76
  go_wp2_with fail
  go_loopw [5] (fun u5 wr => ∃ i : Nat, u5 = .int .i64 i ∧ i ≤ l.length ∧ Ext w wr) (fun u5 _ => l.length - (intOf u5).toNat)
  case atStart => exact ⟨0, rfl, Nat.zero_le _, Ext.refl _⟩
  case round =>
    obtain ⟨i, rfl, hi, hx⟩ := hrel
    have HX := hid hx
    by_cases hlt : i < l.length
    · obtain ⟨g, o, cap, fa, fc, e, c0, c1, c2, hfc, hf1, hf2⟩ := RdMk.at (RdSO.ext H.out hx) i hlt
      simp only [Value.slice.injEq] at e
      obtain ⟨rfl, -, rfl⟩ := e
      obtain ⟨g2, o2, cap2, fv2, e2, hg2, -, d0, d1, d2, h1, h2, h3⟩ := (HL.out.ext hx).atE i hlt
      simp only [Value.slice.injEq] at e2
      obtain ⟨rfl, -, rfl⟩ := e2
      generalize l[i] = ev at c0 c1 c2 hfc hf1 hf2 d0 d1 d2 h1 h2 h3
      obtain ⟨t, n, fs⟩ := ev
      dsimp only at c0 c1 c2 hfc hf1 hf2 d0 d1 d2 h1 h2 h3
      obtain ⟨fa2, fc2, rfl, hq1, hq2⟩ := h3.slice
      obtain ⟨gm, om, cm, em, -, -, m0, -⟩ := (RdSO.rd hf1).atF fs.length (by simp)
      simp only [Value.slice.injEq] at em
      obtain ⟨rfl, -, rfl⟩ := em
      rw [show (fs ++ [mine])[fs.length]'(by simp) = mine by simp] at m0
      obtain ⟨_, _, ebb, hb1', hb2'⟩ := RdSO.slice hf1
      simp only [Value.slice.injEq] at ebb
      obtain ⟨-, -, rfl⟩ := ebb
      replace m0 : wr.cell? ⟨gm, om + fs.length * 4, none⟩ = some (.string ⟨#[109, 105, 110, 101]⟩) := m0
      have hmm : (⟨#[109, 105, 110, 101]⟩ : ByteArray).toList = [109, 105, 110, 101] := by decide +kernel
      have HF2 := hid hf2
      have H3 := hid h3
      have i1 : (i : Int) < (l.length : Int) := by omega
      have hw1 : IntKind.i64.wrap ((i : Int) + 1) = (i : Int) + 1 := by rw [IntKind.wrap_i64]; omega
      clear hf1 hf2 h3 hx
      go_wp2_with fail
      have hxd : Ext wr wr.drew := by (· repeat (first | (with_reducible assumption) | exact Ext.refl _ | refine Ext.alloc ?_ _ | refine Ext.drew ?_ | refine Ext.drewN ?_ _ | (apply Ext.snart; (with_reducible assumption))))
      have HXD := hid hxd
      refine wp_region_T (fun w' => w'.cell? ⟨g, o + i * 3, none⟩ = some (.string t) ∧ w'.cell? ⟨g, o + i * 3 + 1, none⟩ = some (.int .i64 n) ∧ w'.cell? ⟨g, o + i * 3 + 2, none⟩ = some (.slice (some ⟨gm, om, none⟩) fs.length fc) ∧ w'.cell? ⟨g2, o2 + i * 3, none⟩ = some (.string t) ∧ w'.cell? ⟨g2, o2 + i * 3 + 1, none⟩ = some (.int .i64 n) ∧ w'.cell? ⟨g2, o2 + i * 3 + 2, none⟩ = some (.slice fa2 fs.length fc2)) [] (by kernel_rfl) ⟨Ext.cellS hxd c0, Ext.cellS hxd c1, Ext.cellS hxd c2, Ext.cellS hxd d0, Ext.cellS hxd d1, Ext.cellS hxd d2⟩ (fun hS => ?_)
      clear hxd
      (refine wpAnyT_take (i := 0) (v := ?_) rfl (by kernel_rfl) (by kernel_rfl) (by kernel_rfl) (by kernel_rfl) (fun _ _ _ h => h) (Or.inl ⟨by rfl, ?_⟩) (by assumption) ?_; rotate_left; ((intro wS hSw; (try dsimp only at hSw); (try simp only [List.getElem_toArray, List.getElem_cons_zero, List.getElem_cons_succ]); go_simp); (try with_reducible rfl)); (try simp only [Act.put, List.getElem_toArray, List.getElem_cons_zero, List.getElem_cons_succ, List.setIfInBounds_toArray, List.set_cons_zero, List.set_cons_succ]))
      (refine wpAnyT_take (i := 1) (v := ?_) rfl (by kernel_rfl) (by kernel_rfl) (by kernel_rfl) (by kernel_rfl) (fun _ _ _ h => h) (Or.inl ⟨by rfl, ?_⟩) (by assumption) ?_; rotate_left; ((intro wS hSw; (try dsimp only at hSw); (try simp only [List.getElem_toArray, List.getElem_cons_zero, List.getElem_cons_succ]); go_simp); (try with_reducible rfl)); (try simp only [Act.put, List.getElem_toArray, List.getElem_cons_zero, List.getElem_cons_succ, List.setIfInBounds_toArray, List.set_cons_zero, List.set_cons_succ]))
      (refine wpAnyT_take (i := 2) (v := ?_) rfl (by kernel_rfl) (by kernel_rfl) (by kernel_rfl) (by kernel_rfl) (fun _ _ _ h => h) (Or.inl ⟨by rfl, ?_⟩) (by assumption) ?_; rotate_left; ((intro wS hSw; (try dsimp only at hSw); (try simp only [List.getElem_toArray, List.getElem_cons_zero, List.getElem_cons_succ]); go_simp); (try with_reducible rfl)); (try simp only [Act.put, List.getElem_toArray, List.getElem_cons_zero, List.getElem_cons_succ, List.setIfInBounds_toArray, List.set_cons_zero, List.set_cons_succ]))
      (refine wpAnyT_take (i := 3) (v := ?_) rfl (by kernel_rfl) (by kernel_rfl) (by kernel_rfl) (by kernel_rfl) (fun _ _ _ h => h) (Or.inl ⟨by rfl, ?_⟩) (by assumption) ?_; rotate_left; ((intro wS hSw; (try dsimp only at hSw); (try simp only [List.getElem_toArray, List.getElem_cons_zero, List.getElem_cons_succ]); go_simp); (try with_reducible rfl)); (try simp only [Act.put, List.getElem_toArray, List.getElem_cons_zero, List.getElem_cons_succ, List.setIfInBounds_toArray, List.set_cons_zero, List.set_cons_succ]))
      (refine wpAnyT_take (i := 4) (v := ?_) rfl (by kernel_rfl) (by kernel_rfl) (by kernel_rfl) (by kernel_rfl) (fun _ _ _ h => h) (Or.inl ⟨by rfl, ?_⟩) (by assumption) ?_; rotate_left; ((intro wS hSw; (try dsimp only at hSw); (try simp only [List.getElem_toArray, List.getElem_cons_zero, List.getElem_cons_succ]); go_simp); (try with_reducible rfl)); (try simp only [Act.put, List.getElem_toArray, List.getElem_cons_zero, List.getElem_cons_succ, List.setIfInBounds_toArray, List.set_cons_zero, List.set_cons_succ]))
      (refine wpAnyT_take (i := 5) (v := ?_) rfl (by kernel_rfl) (by kernel_rfl) (by kernel_rfl) (by kernel_rfl) (fun _ _ _ h => h) (Or.inl ⟨by rfl, ?_⟩) (by assumption) ?_; rotate_left; ((intro wS hSw; (try dsimp only at hSw); (try simp only [List.getElem_toArray, List.getElem_cons_zero, List.getElem_cons_succ]); go_simp); (try with_reducible rfl)); (try simp only [Act.put, List.getElem_toArray, List.getElem_cons_zero, List.getElem_cons_succ, List.setIfInBounds_toArray, List.set_cons_zero, List.set_cons_succ]))
      (refine wpAnyT_take (i := 6) (v := ?_) rfl (by kernel_rfl) (by kernel_rfl) (by kernel_rfl) (by kernel_rfl) (fun _ _ _ h => h) (Or.inl ⟨by rfl, ?_⟩) (by assumption) ?_; rotate_left; ((intro wS hSw; (try dsimp only at hSw); (try simp only [List.getElem_toArray, List.getElem_cons_zero, List.getElem_cons_succ]); go_simp); (try with_reducible rfl)); (try simp only [Act.put, List.getElem_toArray, List.getElem_cons_zero, List.getElem_cons_succ, List.setIfInBounds_toArray, List.set_cons_zero, List.set_cons_succ]))
      (refine wpAnyT_take (i := 7) (v := ?_) rfl (by kernel_rfl) (by kernel_rfl) (by kernel_rfl) (by kernel_rfl) (fun _ _ _ h => h) (Or.inl ⟨by rfl, ?_⟩) (by assumption) ?_; rotate_left; ((intro wS hSw; (try dsimp only at hSw); (try simp only [List.getElem_toArray, List.getElem_cons_zero, List.getElem_cons_succ]); go_simp); (try with_reducible rfl)); (try simp only [Act.put, List.getElem_toArray, List.getElem_cons_zero, List.getElem_cons_succ, List.setIfInBounds_toArray, List.set_cons_zero, List.set_cons_succ]))
      refine wpAnyT_all (rs := [8]) (by kernel_rfl) (by decide) (AllT.consS rfl (fun K hK => ?_) AllT.nil)
      go_simp
      go_at_call 56
      refine (SameEvent_any _ S T t t n n _ _ fs fs ((RdSO.rd HF2.out).ext HXD.out) (H3.out.ext HXD.out)).mono ?_
      rintro e w1 ⟨rfl, hb1⟩
      have hx1 := HXD.out.trans (Ext.of hb1)
      simp only [decide_true]
      have HX1 := hid (HX.out.trans hx1)
      (refine hK.out _ _ (⟨Ext.cellS hx1 c0, Ext.cellS hx1 c1, Ext.cellS hx1 c2, Ext.cellS hx1 d0, Ext.cellS hx1 d1, Ext.cellS hx1 d2⟩) (fun hS => ?_); clear hK K)
      refine wpAnyT_all (rs := [9]) (by kernel_rfl) (by decide) (AllT.consS rfl (fun K hK => ?_) AllT.nil)
      go_simp
      (refine hK.out _ _ (hS) (fun hS => ?_); clear hK K)
      refine wpAnyT_done (by kernel_rfl) (NoPanic.normal ?_) _
      have c2 := Ext.cellS hx1 c2
      have d2 := Ext.cellS hx1 d2
      have m0 := Ext.cellS hx1 m0
      have hw2 : IntKind.i64.wrap ((fs.length : Int) + 1) = ((fs.length + 1 : Nat) : Int) := by rw [IntKind.wrap_i64]; omega
      clear hb1 hx1 hS
      go_wp2_with fail
      exact ⟨⟨i + 1, rfl, by omega, HX1.out⟩, by simp only [intOf]; omega⟩
    · obtain rfl : i = l.length := by omega
      have i1 : ¬ (l.length : Int) < (l.length : Int) := by omega
      clear hx
      go_wp2_with fail
      go_ret
      exact ⟨rfl, HX.out⟩
end Go.Proofs.Ythobhkmphjnlaaa

/- cartularylaw10's entries. -/
namespace Go.Proofs.Ythobhkmphjnlaaa
open Go.RowKit Go.Maps
set_option linter.unusedVariables false
set_option linter.unusedSimpArgs false

theorem RdEn.at {w : World} {S : Nat → Prop} {v : Value} {es : List Ent} (h : RdSO rEntO 71 w S v es) (i : Nat) (hi : i < es.length) :
    ∃ g o cap fv cur, v = .slice (some ⟨g, o, none⟩) es.length cap ∧ S g ∧ w.heap[g]? = some (Obj.cells cur 71 (0, 0)) ∧ (∃ y, w.cell? ⟨g, o + i * 6, none⟩ = some y) ∧ (∃ y, w.cell? ⟨g, o + i * 6 + 1, none⟩ = some y) ∧ (∃ y, w.cell? ⟨g, o + i * 6 + 2, none⟩ = some y) ∧ (∃ y, w.cell? ⟨g, o + i * 6 + 3, none⟩ = some y) ∧ (∃ y, w.cell? ⟨g, o + i * 6 + 4, none⟩ = some y) ∧
      w.cell? ⟨g, o + i * 6 + 5, none⟩ = some fv ∧ RdSO rF 108 w S fv es[i].2.2.2.2.2 := by
  obtain ⟨g, o, cap, cs, e, hg, hS, _, hc, hr⟩ := (RdSO.rd h).at i hi
  obtain ⟨a1, a2, rfl, ⟨rfl, _⟩, b1, b2, rfl, ⟨rfl, _⟩, b3, b4, rfl, ⟨rfl, _⟩, c1, c2, rfl, ⟨rfl, h1⟩, c3, c4, rfl, ⟨rfl, h2⟩, h3⟩ := hr
  obtain ⟨fv, rfl, h4, h5⟩ := h3
  subst e
  obtain ⟨-, cur, h6⟩ := RdSO.row h g rfl
  have hcc : ∀ j u, _ → w.cell? ⟨g, o + i * 6 + j, none⟩ = some u := fun j u hu => by rw [Nat.add_assoc]; exact hc j u hu
  exact ⟨g, o, cap, fv, cur, rfl, hS, h6, ⟨_, hcc 0 _ rfl⟩, ⟨_, hcc 1 _ rfl⟩, ⟨_, hcc 2 _ rfl⟩, ⟨_, hcc 3 _ rfl⟩, ⟨_, hcc 4 _ rfl⟩, hcc 5 _ rfl, ⟨fv, rfl, h4, h5⟩⟩
theorem RdSO.entW {w : World} {S : Nat → Prop} {v : Value} {l : List Ent} (h : RdSO rEntO 71 w S v l) : RdS rEnt w S v l := RdS.weak (r := rEntO) (r' := rEnt) rfl rEntO_weak (RdSO.rd h)

set_option maxRecDepth 100000 in
set_option maxHeartbeats 4000000 in
theorem entries_any (w : World) (S T : Nat → Prop) (v vb : Value) (l : List Ent) (h : RdSO rEntO 71 w S v l) (hb : RdS rEnt w T vb l) (er : Int) :
    Calls Try.prog 38 #[v, .int .i64 er, vb, .int .i64 er] w fun e w' => e = .returned (.bool true) ∧ Keep (fun k => ¬ S k) w w' := by
  obtain ⟨va, vc, rfl, hle1, hle2⟩ := RdSO.slice h
  have H0 := hid h
  have HB := hid hb
  clear h hb
  go_enter Try.func38, Try.ntmps38
  go_wp2_with fail
  refine (SameEntries_any w S T _ vb l l H0.out.entW HB.out).mono ?_
  rintro e w1 ⟨rfl, hb1⟩
  simp only [decide_true]
  have hx1 := Ext.of hb1
  have H := hid (RdSO.ext H0.out hx1)
  have HX1 := hid hx1
  clear hb1 hx1 H0 HB
  go_wp2_with fail
  go_loopw [10] (fun u2 wr => ∃ i : Nat, u2 = .int .i64 i ∧ i ≤ l.length ∧ Shp w1 wr ∧ (∀ g o, va = some ⟨g, o, none⟩ → ∀ j, i * 6 ≤ j → wr.cell? ⟨g, o + j, none⟩ = w1.cell? ⟨g, o + j, none⟩) ∧ Keep (fun k => ¬ S k) w1 wr) (fun u2 _ => l.length - (intOf u2).toNat)
  case atStart => exact ⟨0, rfl, Nat.zero_le _, Shp.refl _, fun _ _ _ _ _ => rfl, Keep.refl _ _⟩
  case round =>
    obtain ⟨i, rfl, hi, hshp, hun, hk⟩ := hrel
    by_cases hlt : i < l.length
    · obtain ⟨g, o, cap, fv, cur, e, hSg, hrow, q0, q1, q2, q3, q4, q5, hfv⟩ := RdEn.at H.out i hlt
      simp only [Value.slice.injEq] at e
      obtain ⟨rfl, -, rfl⟩ := e
      have c2 : wr.cell? ⟨g, o + i * 6 + 5, none⟩ = some fv := by
        have := hun g o rfl (i * 6 + 5) (by omega)
        rw [← Nat.add_assoc] at this
        rw [this]; exact q5
      obtain ⟨fa, fc, rfl, hf1, hf2⟩ := RdSO.slice hfv
      have HF := hid hfv
      have HROW := hid hrow
      have HUN := hid hun
      have HSG := hid hSg
      have HQ := hid (And.intro q0 (And.intro q1 (And.intro q2 (And.intro q3 q4))))
      have HQ2 := hid q5
      generalize l[i] = ev at HF hf1 HQ2 c2
      obtain ⟨ep, es, em, et, en, ef⟩ := ev
      dsimp only at HF hf1 HQ2 c2
      have i1 : (i : Int) < (l.length : Int) := by omega
      have hw1 : IntKind.i64.wrap ((i : Int) + 1) = (i : Int) + 1 := by rw [IntKind.wrap_i64]; omega
      have HSH := hid hshp
      have HK := hid hk
      clear hfv hrow hun hSg q0 q1 q2 q3 q4 q5 hshp hk
      go_wp2_with fail
      go_loopw [11] (fun u3 wq => ∃ k : Nat, u3 = .int .i64 k ∧ k ≤ ef.length ∧ Shp w1 wq ∧ (∀ j, i * 6 ≤ j → wq.cell? ⟨g, o + j, none⟩ = w1.cell? ⟨g, o + j, none⟩) ∧ Keep (fun k => ¬ S k) w1 wq) (fun u3 _ => ef.length - (intOf u3).toNat)
      case atStart => exact ⟨0, rfl, Nat.zero_le _, HSH.out, HUN.out g o rfl, HK.out⟩
      case round =>
        obtain ⟨k, rfl, hk, hshp, hun, hkk⟩ := hrel
        have c2 : wr.cell? ⟨g, o + i * 6 + 5, none⟩ = some (.slice fa ef.length fc) := by
          have := hun (i * 6 + 5) (by omega)
          rw [← Nat.add_assoc] at this
          rw [this]; exact HQ2.out
        by_cases hlk : k < ef.length
        · obtain ⟨gf, of, cf, curf, e, hSf, hrf, ⟨y0, z0⟩, ⟨y1, z1⟩, ⟨y2, z2⟩, ⟨y3, z3⟩⟩ := fld_row HF.out k hlk
          simp only [Value.slice.injEq] at e
          obtain ⟨rfl, -, rfl⟩ := e
          have hgf : ¬ g = gf := fun e => by
            subst e
            have h1 := HROW.out
            rw [h1] at hrf
            simp at hrf
          have hgf' : ¬ gf = g := fun e => hgf e.symm
          obtain ⟨⟨a0, d0⟩, f0⟩ := hshp.cell hrf z0
          obtain ⟨⟨a1, d1⟩, f1⟩ := hshp.cell hrf z1
          obtain ⟨⟨a2, d2⟩, f2⟩ := hshp.cell hrf z2
          obtain ⟨⟨a3, d3⟩, f3⟩ := hshp.cell hrf z3
          have HNX := hid (show ∀ (v0 v1 v2 v3 : Value), Shp w1 ((((wr.setCell ⟨gf, of + k * 4, none⟩ v0).setCell ⟨gf, of + k * 4 + 1, none⟩ v1).setCell ⟨gf, of + k * 4 + 2, none⟩ v2).setCell ⟨gf, of + k * 4 + 3, none⟩ v3) ∧ (∀ j, i * 6 ≤ j → ((((wr.setCell ⟨gf, of + k * 4, none⟩ v0).setCell ⟨gf, of + k * 4 + 1, none⟩ v1).setCell ⟨gf, of + k * 4 + 2, none⟩ v2).setCell ⟨gf, of + k * 4 + 3, none⟩ v3).cell? ⟨g, o + j, none⟩ = w1.cell? ⟨g, o + j, none⟩) ∧ Keep (fun k => ¬ S k) w1 ((((wr.setCell ⟨gf, of + k * 4, none⟩ v0).setCell ⟨gf, of + k * 4 + 1, none⟩ v1).setCell ⟨gf, of + k * 4 + 2, none⟩ v2).setCell ⟨gf, of + k * 4 + 3, none⟩ v3) from fun v0 v1 v2 v3 => ⟨(((hshp.set _ _ _).set _ _ _).set _ _ _).set _ _ _, fun j hj => by
            rw [setCell_other (fun e => hgf' e.1), setCell_other (fun e => hgf' e.1), setCell_other (fun e => hgf' e.1), setCell_other (fun e => hgf' e.1)]
            exact hun j hj, (((hkk.setCell (fun h => h hSf) _).setCell (fun h => h hSf) _).setCell (fun h => h hSf) _).setCell (fun h => h hSf) _⟩)
          have i2 : (k : Int) < (ef.length : Int) := by omega
          have hw2 : IntKind.i64.wrap ((k : Int) + 1) = (k : Int) + 1 := by rw [IntKind.wrap_i64]; omega
          clear hshp hun hkk z0 z1 z2 z3 hrf hSf
          go_wp2_with fail
          obtain ⟨n1, n2, n3⟩ := HNX.out (.string ⟨#[115, 112, 111, 105, 108, 116]⟩) (.bool false) (.int .i64 0) (.string ⟨#[]⟩)
          exact ⟨⟨k + 1, rfl, by omega, n1, n2, n3⟩, by simp only [intOf]; omega⟩
        · obtain rfl : k = ef.length := by omega
          have i2 : ¬ (ef.length : Int) < (ef.length : Int) := by omega
          obtain ⟨⟨y0, z0⟩, ⟨y1, z1⟩, ⟨y2, z2⟩, ⟨y3, z3⟩, ⟨y4, z4⟩⟩ := HQ.out
          obtain ⟨⟨a0, d0⟩, f0⟩ := hshp.cell HROW.out z0
          obtain ⟨⟨a1, d1⟩, f1⟩ := hshp.cell HROW.out z1
          obtain ⟨⟨a2, d2⟩, f2⟩ := hshp.cell HROW.out z2
          obtain ⟨⟨a3, d3⟩, f3⟩ := hshp.cell HROW.out z3
          obtain ⟨⟨a4, d4⟩, f4⟩ := hshp.cell HROW.out z4
          obtain ⟨-, f5⟩ := hshp.cell HROW.out HQ2.out
          have HNX := hid (show ∀ (v0 v1 v2 v3 v4 v5 : Value), Shp w1 ((((((wr.setCell ⟨g, o + i * 6, none⟩ v0).setCell ⟨g, o + i * 6 + 1, none⟩ v1).setCell ⟨g, o + i * 6 + 2, none⟩ v2).setCell ⟨g, o + i * 6 + 3, none⟩ v3).setCell ⟨g, o + i * 6 + 4, none⟩ v4).setCell ⟨g, o + i * 6 + 5, none⟩ v5) ∧ (∀ g' o', some (⟨g, o, none⟩ : Addr) = some ⟨g', o', none⟩ → ∀ j, (i + 1) * 6 ≤ j → ((((((wr.setCell ⟨g, o + i * 6, none⟩ v0).setCell ⟨g, o + i * 6 + 1, none⟩ v1).setCell ⟨g, o + i * 6 + 2, none⟩ v2).setCell ⟨g, o + i * 6 + 3, none⟩ v3).setCell ⟨g, o + i * 6 + 4, none⟩ v4).setCell ⟨g, o + i * 6 + 5, none⟩ v5).cell? ⟨g', o' + j, none⟩ = w1.cell? ⟨g', o' + j, none⟩) ∧ Keep (fun k => ¬ S k) w1 ((((((wr.setCell ⟨g, o + i * 6, none⟩ v0).setCell ⟨g, o + i * 6 + 1, none⟩ v1).setCell ⟨g, o + i * 6 + 2, none⟩ v2).setCell ⟨g, o + i * 6 + 3, none⟩ v3).setCell ⟨g, o + i * 6 + 4, none⟩ v4).setCell ⟨g, o + i * 6 + 5, none⟩ v5) from fun v0 v1 v2 v3 v4 v5 => ⟨(((((hshp.set _ _ _).set _ _ _).set _ _ _).set _ _ _).set _ _ _).set _ _ _, fun g' o' e j hj => by
            simp only [Option.some.injEq, Addr.mk.injEq] at e
            obtain ⟨rfl, rfl, -⟩ := e
            rw [setCell_other (by omega), setCell_other (by omega), setCell_other (by omega), setCell_other (by omega), setCell_other (by omega), setCell_other (by omega)]
            exact hun j (by omega), (((((hkk.setCell (fun h => h HSG.out) _).setCell (fun h => h HSG.out) _).setCell (fun h => h HSG.out) _).setCell (fun h => h HSG.out) _).setCell (fun h => h HSG.out) _).setCell (fun h => h HSG.out) _⟩)
          clear hshp hun hkk z0 z1 z2 z3 z4
          go_wp2_with fail
          obtain ⟨n1, n2, n3⟩ := HNX.out (.int .i64 0) (.string ⟨#[]⟩) (.int .i64 0) (.string ⟨#[]⟩) (.int .i64 0) (.slice none 0 0)
          exact ⟨⟨i + 1, rfl, by omega, n1, n2, n3⟩, by simp only [intOf]; omega⟩
    · obtain rfl : i = l.length := by omega
      have i1 : ¬ (l.length : Int) < (l.length : Int) := by omega
      have HK := hid hk
      clear hshp hun hk
      go_wp2_with fail
      go_ret
      exact ⟨ret_bool (by simp), (HX1.out.keep _).trans HK.out⟩
end Go.Proofs.Ythobhkmphjnlaaa

/- cartularylaw10's tried: an append on both. -/
namespace Go.Proofs.Ythobhkmphjnlaaa
open Go.RowKit Go.Maps
set_option linter.unusedVariables false
set_option linter.unusedSimpArgs false

/-- an Index and the document's side by side; below B lies what came in -/
structure Sd (w : World) (B n g r : Nat) (x : Ix) (L : List Bat) (T E U : Nat → Prop) : Prop where
  idx : Idx T w g x
  rix : RIxE E U w r L
  dis : ∀ k, T k → ¬ U k
  rel : Rel x L
  inv : LInv L n
  args : ∀ k, k < B → E k
  lo : ∀ k, T k → B ≤ k ∧ k < w.heap.size
  up : ∀ k, U k → k < w.heap.size
  EU : ∀ k, E k → U k
  rlo : ∀ k, U k → ¬ E k → B ≤ k
section
variable {w w' : World} {B n g r : Nat} {x : Ix} {L : List Bat} {T E U : Nat → Prop}
theorem Sd.kept (h : Sd w B n g r x L T E U) (hk : Keep (fun k => k < w.heap.size) w w') : Sd w' B n g r x L T E U :=
  { h with
    idx := h.idx.keep (hk.mono fun k hk _ => (h.lo k hk).2)
    rix := h.rix.keep (hk.mono fun k hk _ => h.up k hk)
    lo := fun k ht => ⟨(h.lo k ht).1, Nat.lt_of_lt_of_le (h.lo k ht).2 hk.size⟩
    up := fun k hu => Nat.lt_of_lt_of_le (h.up k hu) hk.size }
theorem Sd.keepTU (h : Sd w B n g r x L T E U) (hk : Keep (fun k => T k ∨ U k) w w') : Sd w' B n g r x L T E U :=
  { h with
    idx := h.idx.keep (hk.mono fun k hk _ => .inl hk)
    rix := h.rix.keep (hk.mono fun k hk _ => .inr hk)
    lo := fun k ht => ⟨(h.lo k ht).1, Nat.lt_of_lt_of_le (h.lo k ht).2 hk.size⟩
    up := fun k hu => Nat.lt_of_lt_of_le (h.up k hu) hk.size }
theorem Sd.ext (h : Sd w B n g r x L T E U) (hx : Ext w w') : Sd w' B n g r x L T E U := h.kept (hx.keep _)
theorem Sd.mono {m : Nat} (h : Sd w B n g r x L T E U) (hm : n ≤ m) : Sd w B m g r x L T E U := { h with inv := h.inv.mono hm }
/-- rows of ours that are new, of which batches may be taken -/
theorem Sd.more {N : Nat → Prop} {wb : World} (h : Sd w B n g r x L T E U) (hN : ∀ k, N k → w.heap.size ≤ k ∧ k < wb.heap.size) (hk : Keep (fun k => k < w.heap.size) w wb) : Sd wb B n g r x L T (fun k => E k ∨ N k) (fun k => U k ∨ N k) :=
  { (h.kept hk) with
    rix := (h.rix.more fun k hk => (hN k hk).1).keep (hk.mono fun k hk hl => hl)
    dis := fun k hk e => by
      rcases e with e | e
      · exact h.dis k hk e
      · have := (h.lo k hk).2; have := (hN k e).1; omega
    args := fun k hk => .inl (h.args k hk)
    up := fun k e => by
      rcases e with e | e
      · exact Nat.lt_of_lt_of_le (h.up k e) hk.size
      · exact (hN k e).2
    EU := fun k e => e.imp (h.EU k) id
    rlo := fun k e hn => by
      rcases e with e | e
      · exact h.rlo k e fun h => hn (.inl h)
      · exact absurd (.inr e) hn }
/-- a batch is added to both -/
theorem Sd.add {w1 w2 : World} (h : Sd w B n g r x L T E U) (b : Bat) (hB : B ≤ w.heap.size) {T1 U2 : Nat → Prop} (h1 : Idx T1 w1 g (addF x b).1) (hT1 : ∀ k, T1 k → T k ∨ (w.heap.size ≤ k ∧ k < w1.heap.size)) (k1 : Keep (fun k => ¬ T k) w w1)
    (h2 : RIxE E U2 w2 r (addR L b).1) (hU2 : ∀ k, U2 k → U k ∨ (w1.heap.size ≤ k ∧ k < w2.heap.size)) (hUU : ∀ k, U k → U2 k) (k2 : Keep (fun k => ¬ (U k ∧ ¬ E k)) w1 w2) : Sd w2 B (n + 1) g r (addF x b).1 (addR L b).1 T1 E U2 := by
  have z1 := k1.size
  have z2 := k2.size
  refine ⟨h1.keep (k2.mono fun k hk hl e => ?_), h2, fun k hk e => ?_, (h.rel.add b).2, h.inv.add b, h.args, fun k hk => ?_, fun k hk => ?_, fun k hk => hUU k (h.EU k hk), fun k hk hn => ?_⟩
  · rcases hT1 k hk with h3 | h3
    · exact h.dis k h3 e.1
    · have := h.up k e.1; omega
  · rcases hT1 k hk with h3 | h3
    · rcases hU2 k e with h4 | h4
      · exact h.dis k h3 h4
      · have := (h.lo k h3).2; omega
    · rcases hU2 k e with h4 | h4
      · have := h.up k h4; omega
      · omega
  · rcases hT1 k hk with h3 | h3
    · have := h.lo k h3; omega
    · omega
  · rcases hU2 k hk with h4 | h4
    · have := h.up k h4; omega
    · omega
  · rcases hU2 k hk with h4 | h4
    · exact h.rlo k h4 hn
    · omega
end
/-- what a call comes to -/
def SdEnd (w : World) (B n g r : Nat) (e : Ending) (w' : World) : Prop := e = .returned (.bool true) ∧ (∃ x' L' T' E' U', Sd w' B n g r x' L' T' E' U') ∧ Keep (fun k => k < B) w w'

theorem tryR_ok (L : List Bat) (s : ByteArray) (n : Int) (k : ByteArray) (l : List Ev) (hs : s.size ≤ 9223372036854775807) (hk : k.size ≤ 9223372036854775807) (hL : evN L ≤ 100000) :
    (tryR L s n k l).2.1.1.size ≤ 9223372036854775807 ∧ (tryR L s n k l).2.1.2.1.size ≤ 9223372036854775807 ∧ (-9223372036854775808 ≤ (tryR L s n k l).2.1.2.2.1 ∧ (tryR L s n k l).2.1.2.2.1 ≤ 9223372036854775807) ∧ (tryR L s n k l).2.1.2.2.2.length ≤ l.length := by
  have h1 := ofF_len (entsF L) s
  have h2 : (entsF L).length = evN L := rfl
  have hb : bat0.1.size ≤ 9223372036854775807 ∧ bat0.2.1.size ≤ 9223372036854775807 ∧ (-9223372036854775808 ≤ bat0.2.2.1 ∧ bat0.2.2.1 ≤ 9223372036854775807) ∧ bat0.2.2.2.length ≤ l.length := ⟨by decide, by decide, by decide, by simp [bat0]⟩
  unfold tryR
  split
  · exact hb
  · split
    · split <;> exact hb
    · split
      · exact hb
      · split
        · exact hb
        · split
          · exact hb
          · exact ⟨hs, hk, by dsimp only; omega, Nat.le_refl _⟩

set_option maxRecDepth 100000 in
set_option maxHeartbeats 4000000 in
theorem tried_any (w : World) (B n g r : Nat) (x : Ix) (L : List Bat) (T E U : Nat → Prop) (h : Sd w B n g r x L T E U) (hn : n ≤ 1000) (hB : B ≤ w.heap.size) (kd N M bf : Int) (s k bs bk : ByteArray) (lv bev : Value) (l : List Ev)
    (hs : s.size ≤ 9223372036854775807) (hk : k.size ≤ 9223372036854775807) (hN : -9223372036854775808 ≤ N ∧ N ≤ 9223372036854775807) (hl : RdS rE w (fun k => k < B) lv l) (hl48 : l.length * 48 ≤ 140737488351232) (hf48 : ∀ e ∈ l, e.2.2.length * 48 ≤ 140737488351232) (hbev : bev.oneCell' = true) :
    Calls Try.prog 74 #[.pointer (some ⟨g, 0, none⟩), .pointer (some ⟨r, 0, none⟩), .agg #[.int .i64 kd, .string s, .string k, .int .i64 N, .int .i64 M, lv, .string bs, .string bk, .int .i64 bf, bev]] w (SdEnd w B (n + 1) g r) := by
  obtain ⟨la, lc, rfl, -, -⟩ := hl.slice
  have H := hid h
  have HL := hid hl
  have HL48 := hid hl48
  have HF48 := hid hf48
  have hL1 := h.inv.len
  have hL2 := h.inv.ev
  have HBK := And.intro (h.inv.bok (by omega)) (show evN L ≤ 100000 by omega)
  have hall : x.all.length ≤ 100000 := by rw [h.rel.all]; have : (entsF L).length = evN L := rfl; omega
  have hstr : ∀ s, (x.str s).length ≤ 100000 := fun s => by
    rw [h.rel.len]
    have h1 := ofF_len (entsF L) s
    have h2 : (entsF L).length = evN L := rfl
    omega
  clear h hl hl48 hf48
  obtain ⟨wb, hwb⟩ : ∃ wb, wb = w.alloc (.cells #[.int .i64 kd, .string s, .string k, .int .i64 N, .int .i64 M, .slice la l.length lc, .string bs, .string bk, .int .i64 bf, bev] 39) := ⟨_, rfl⟩
  have hxb : Ext w wb := by rw [hwb]; exact (Ext.refl _).alloc _
  have hrb : wb.heap[w.heap.size]? = some (.cells #[.int .i64 kd, .string s, .string k, .int .i64 N, .int .i64 M, .slice la l.length lc, .string bs, .string bk, .int .i64 bf, bev] 39 (0, 0)) := by rw [hwb]; exact heap_alloc_new _ _
  go_enter Try.func74, Try.ntmps74
  go_wp2_with fail
  rw [← hwb]
  have hz0 : wb.heap.size = w.heap.size + 1 := by rw [hwb]; simp
  have HXB := hid hxb
  have HRB := hid hrb
  obtain ⟨g0, hg0⟩ : ∃ g0, w.heap.size = g0 := ⟨_, rfl⟩
  rw [hg0] at hz0 ⊢
  have HRB := hid (hg0 ▸ HRB.out)
  have HG0 := hid hg0
  clear hwb hxb hrb hg0
  refine (own10_any wb _ _ l (HL.out.ext HXB.out) HL48.out HF48.out).mono ?_
  rintro e w1 ⟨v1, rfl, hv1, hx1⟩
  obtain ⟨a1, c1, rfl, hac1, hac2⟩ := RdSO.slice hv1
  have HV1 := hid (RdSO.upto hv1)
  have HX1 := hid (HXB.out.trans hx1)
  have hz1 := hx1.size
  have HRB1 := hid ((Below.block hx1 g0 (by omega)).trans HRB.out)
  have b1 := (cell_of_row _ _ 1 _ _ _ HRB1.out).trans rfl
  have b2 := (cell_of_row _ _ 2 _ _ _ HRB1.out).trans rfl
  have b3 := (cell_of_row _ _ 3 _ _ _ HRB1.out).trans rfl
  clear hv1 hx1
  go_wp2_with fail
  refine (Try_idx w1 T g x (H.out.idx.ext HX1.out) hall s hs N hN k hk _ _ l (RdEs.read (RdMk.es HV1.out)) (by omega) (hstr s)).mono ?_
  rintro e w2 ⟨ev, rfl, hev, hx2⟩
  rw [H.out.rel.try s N k l] at hev ⊢
  obtain ⟨hzs, hzk, hzf, hzl⟩ := tryR_ok L s N k l hs hk HBK.2
  obtain ⟨z, hz⟩ : ∃ z, tryR L s N k l = z := ⟨_, rfl⟩
  rw [hz] at hev hzs hzk hzf hzl ⊢
  have HZ := hid hz
  obtain ⟨⟨y1, y2, y3, y4⟩, ⟨zs, zk, zf, ze⟩, zc⟩ := z
  dsimp only at hev hzs hzk hzf hzl ⊢
  obtain ⟨ea, ec, rfl, hec1, hec2⟩ := RdSO.slice hev
  have HEV := hid (RdSO.upto hev)
  have HX2 := hid (HX1.out.trans hx2)
  have HX12 := hid hx2
  have hz2 := hx2.size
  have HRB2 := hid ((Below.block hx2 g0 (by omega)).trans HRB1.out)
  have b0 := (cell_of_row _ _ 0 _ _ _ HRB2.out).trans rfl
  have b1 := (cell_of_row _ _ 1 _ _ _ HRB2.out).trans rfl
  have b2 := (cell_of_row _ _ 2 _ _ _ HRB2.out).trans rfl
  have b3 := (cell_of_row _ _ 3 _ _ _ HRB2.out).trans rfl
  have b5 := (cell_of_row _ _ 5 _ _ _ HRB2.out).trans rfl
  have n1 : g0 < w2.heap.size := by omega
  have n2 : ¬ g0 = w2.heap.size := by omega
  have n3 : ¬ w2.heap.size = g0 := by omega
  have n4 : ¬ g0 = w2.heap.size + 1 := by omega
  have n5 : ¬ w2.heap.size + 1 = g0 := by omega
  have n6 : g0 < w2.heap.size + 1 := by omega
  clear hev hx2 hz
  go_wp2_with fail
  obtain ⟨wc, hwc⟩ : ∃ wc, wc = (w2.alloc (.cells #[.int .i64 y1, .int .i64 y2, .int .i64 y3, .bool y4] 29)).alloc (.cells #[.string zs, .string zk, .int .i64 zf, .slice ea ze.length ec] 31) := ⟨_, rfl⟩
  rw [← hwc]
  have hxc : Ext w2 wc := by rw [hwc]; exact ((Ext.refl _).alloc _).alloc _
  have hzc : wc.heap.size = w2.heap.size + 2 := by rw [hwc]; simp
  have hA : wc.heap[w2.heap.size]? = some (.cells #[.int .i64 y1, .int .i64 y2, .int .i64 y3, .bool y4] 29) := by rw [hwc]; exact (Below.block ((Ext.refl (w2.alloc _)).alloc _) _ (by simp)).trans (heap_alloc_new _ _)
  have hB' : wc.heap[w2.heap.size + 1]? = some (.cells #[.string zs, .string zk, .int .i64 zf, .slice ea ze.length ec] 31) := by
    rw [hwc]
    have := heap_alloc_new (w2.alloc (.cells #[.int .i64 y1, .int .i64 y2, .int .i64 y3, .bool y4] 29)) (.cells #[.string zs, .string zk, .int .i64 zf, .slice ea ze.length ec] 31)
    simpa using this
  obtain ⟨gA, hgA⟩ : ∃ gA, w2.heap.size = gA := ⟨_, rfl⟩
  obtain ⟨gB, hgB⟩ : ∃ gB, w2.heap.size + 1 = gB := ⟨_, rfl⟩
  rw [hgB] at hB' ⊢
  have HA := hid (show wc.heap[gA]? = some (.cells #[.int .i64 y1, .int .i64 y2, .int .i64 y3, .bool y4] 29) from hgA ▸ hA)
  have HB' := hid hB'
  have HGA := hid (And.intro hgA hgB)
  (try rw [hgA])
  have HXC := hid (HX2.out.trans hxc)
  have HX1C := hid (HX12.out.trans hxc)
  have HSW := hid hxc.size
  have HRBC := hid ((Below.block hxc g0 n1).trans HRB2.out)
  have HEVC := hid (RdSO.ext HEV.out hxc)
  have lA : gA < wc.heap.size := by omega
  have lB : gB < wc.heap.size := by omega
  have l0 : g0 < wc.heap.size := by omega
  have HSZ := hid (show wb.heap.size ≤ w1.heap.size ∧ w1.heap.size ≤ w2.heap.size ∧ w2.heap.size ≤ gA ∧ gA < gB ∧ wb.heap.size = g0 + 1 from ⟨hz1, hz2, by omega, by omega, hz0⟩)
  clear hwc hxc hzc hA hB' hgA hgB n2 n3 n4 n5 n6 n1
  refine (RTry_any wc U r L (H.out.rix.rix.ext HXC.out) HBK.2 (by omega) HBK.1 s hs N hN k hk _ _ l (HL.out.ext HXC.out) (by omega)).mono ?_
  rintro e w3 ⟨ev2, rfl, hown2, hx3⟩
  rw [HZ.out] at hown2 ⊢
  dsimp only at hown2 ⊢
  obtain ⟨pa, pc, rfl⟩ := hown2.slice
  have HO2 := hid (hown2.widen (S' := fun k => k < B) (fun k hk _ => hk.1) (fun k hk e => by have := (hown2.lt k hk).1; have := HXC.out.size; omega))
  have HOL2 := hid hown2.lt
  have hz3 := hx3.size
  have HX3 := hid (HXC.out.trans hx3)
  have HX13 := hid (HX1C.out.trans hx3)
  have HA := hid ((Below.block hx3 gA lA).trans HA.out)
  have HB' := hid ((Below.block hx3 gB lB).trans HB'.out)
  have HRB3 := hid ((Below.block hx3 g0 l0).trans HRBC.out)
  have HEV3 := hid (RdSO.ext HEVC.out hx3)
  have b5 := (cell_of_row _ _ 5 _ _ _ HRB3.out).trans rfl
  have n1 : g0 < w3.heap.size := by omega
  have n2 : ¬ g0 = w3.heap.size := by omega
  have n3 : ¬ w3.heap.size = g0 := by omega
  have n4 : ¬ g0 = w3.heap.size + 1 := by omega
  have n5 : ¬ w3.heap.size + 1 = g0 := by omega
  have n6 : g0 < w3.heap.size + 1 := by omega
  have hlA3 : gA < w3.heap.size := by omega
  have hlB3 : gB < w3.heap.size := by omega
  clear hown2 hx3 lA lB l0
  go_wp2_with fail
  obtain ⟨wd, hwd⟩ : ∃ wd, wd = (w3.alloc (.cells #[.int .i64 y1, .int .i64 y2, .int .i64 y3, .bool y4] 29)).alloc (.cells #[.string zs, .string zk, .int .i64 zf, .slice pa ze.length pc] 31) := ⟨_, rfl⟩
  rw [← hwd]
  have hxd : Ext w3 wd := by rw [hwd]; exact ((Ext.refl _).alloc _).alloc _
  have hzd : wd.heap.size = w3.heap.size + 2 := by rw [hwd]; simp
  have hC : wd.heap[w3.heap.size]? = some (.cells #[.int .i64 y1, .int .i64 y2, .int .i64 y3, .bool y4] 29) := by rw [hwd]; exact (Below.block ((Ext.refl (w3.alloc _)).alloc _) _ (by simp)).trans (heap_alloc_new _ _)
  have hD : wd.heap[w3.heap.size + 1]? = some (.cells #[.string zs, .string zk, .int .i64 zf, .slice pa ze.length pc] 31) := by
    rw [hwd]
    have := heap_alloc_new (w3.alloc (.cells #[.int .i64 y1, .int .i64 y2, .int .i64 y3, .bool y4] 29)) (.cells #[.string zs, .string zk, .int .i64 zf, .slice pa ze.length pc] 31)
    simpa using this
  obtain ⟨gC, hgC⟩ : ∃ gC, w3.heap.size = gC := ⟨_, rfl⟩
  obtain ⟨gD, hgD⟩ : ∃ gD, w3.heap.size + 1 = gD := ⟨_, rfl⟩
  rw [hgD] at hD ⊢
  have HC := hid (show wd.heap[gC]? = some (.cells #[.int .i64 y1, .int .i64 y2, .int .i64 y3, .bool y4] 29) from hgC ▸ hC)
  have HD := hid hD
  (try rw [hgC])
  have HA := hid ((Below.block hxd gA hlA3).trans HA.out)
  have HB' := hid ((Below.block hxd gB hlB3).trans HB'.out)
  have HRBD := hid ((Below.block hxd g0 n1).trans HRB3.out)
  have HEVD := hid (RdSO.ext HEV3.out hxd)
  have HOD := hid (HO2.out.ext hxd)
  have HXD := hid (HX3.out.trans hxd)
  have HSZ2 := hid (show gB < gC ∧ gC < gD ∧ gD < wd.heap.size ∧ w3.heap.size = gC from ⟨by omega, by omega, by omega, hgC⟩)
  have HV1D := hid (RdSO.ext HV1.out (HX13.out.trans hxd))
  have lA : gA < wd.heap.size := by omega
  have lB : gB < wd.heap.size := by omega
  have lC : gC < wd.heap.size := by omega
  have l0 : g0 < wd.heap.size := by omega
  clear hwd hxd hzd hC hD hgC hgD n2 n3 n4 n5 n6 n1 hlA3 hlB3
  refine (held_any10 wd _ _ _ _ l HV1D.out (HL.out.ext HXD.out)).mono ?_
  rintro e w4 ⟨rfl, hx4⟩
  have HV14 := hid (RdSO.ext HV1D.out hx4)
  have HX4 := hid (HXD.out.trans hx4)
  obtain ⟨q1, q2, q3, q4⟩ := HSZ.out
  obtain ⟨q5, q6, q7, q8⟩ := HSZ2.out
  have lD : gD < wd.heap.size := q7
  have q9 := hx4.size
  have hBg : B ≤ g0 := by have := HG0.out; omega
  have HRB4 := hid ((Below.block hx4 g0 l0).trans HRBD.out)
  have HA4 := hid ((Below.block hx4 gA lA).trans HA.out)
  have HB4 := hid ((Below.block hx4 gB lB).trans HB'.out)
  have HC4 := hid ((Below.block hx4 gC lC).trans HC.out)
  have HD4 := hid ((Below.block hx4 gD lD).trans HD.out)
  have HEV4 := hid (RdSO.ext HEVD.out hx4)
  have HO4 := hid (HOD.out.ext hx4)
  have m0 : g0 < w4.heap.size := by omega
  have mA : gA < w4.heap.size := by omega
  have mB : gB < w4.heap.size := by omega
  have mC : gC < w4.heap.size := by omega
  have mD : gD < w4.heap.size := by omega
  clear hx4 lA lB lC lD l0
  go_wp2_with fail
  refine (spoil_any w4 _ _ l (RdMk.es HV14.out)).mono ?_
  rintro e w5 ⟨rfl, hk5⟩
  have HA5 := hid ((hk5.block gA (fun e => by have := e.2; omega) mA).trans HA4.out)
  have HB5 := hid ((hk5.block gB (fun e => by have := e.2; omega) mB).trans HB4.out)
  have HC5 := hid ((hk5.block gC (fun e => by have := e.2; omega) mC).trans HC4.out)
  have HD5 := hid ((hk5.block gD (fun e => by have := e.2; omega) mD).trans HD4.out)
  have HRB5 := hid ((hk5.block g0 (fun e => by have := e.1; have := HSZ.out.2.2.2.2; omega) m0).trans HRB4.out)
  have HEV5 := hid (RdSO.kept HEV4.out (hk5.mono fun j hj _ e => by have := hj.1; have := e.2; omega))
  have HO5 := hid (HO4.out.kept (hk5.mono fun j hj _ e => by
    have e1 := e.1
    have e2 := e.2
    have := HSZ.out.2.2.2.2
    rcases hj with hj | hj
    · omega
    · have := (HO2.out.lt j hj).1; have := HX1C.out.size; omega))
  have HK5 := hid (show Keep (fun k => k < w.heap.size) w w5 from (HX4.out.keep _).trans (hk5.mono fun j hj _ e => by have := e.1; have := HSZ.out.2.2.2.2; have := HG0.out; omega))
  have q10 := hk5.size
  obtain ⟨⟨x0, x1, x2, x3⟩, -⟩ := row4 HB5.out
  obtain ⟨⟨x4, x5, x6, x7⟩, -⟩ := row4 HD5.out
  clear hk5 m0 mA mB mC mD
  go_wp2_with fail
  refine (SameBatch_any w5 _ _ zs zs zk zk zf zf _ _ ze ze (RdEs.read HEV5.out) HO5.out.rd).mono ?_
  rintro e w6 ⟨rfl, hb6⟩
  simp only [decide_true]
  have hx6 := Ext.of hb6
  have k0 : g0 < w5.heap.size := by omega
  have kA : gA < w5.heap.size := by omega
  have kB : gB < w5.heap.size := by omega
  have kC : gC < w5.heap.size := by omega
  have kD : gD < w5.heap.size := by omega
  have HA6 := hid ((Below.block hx6 gA kA).trans HA5.out)
  have HB6 := hid ((Below.block hx6 gB kB).trans HB5.out)
  have HC6 := hid ((Below.block hx6 gC kC).trans HC5.out)
  have HD6 := hid ((Below.block hx6 gD kD).trans HD5.out)
  have HRB6 := hid ((Below.block hx6 g0 k0).trans HRB5.out)
  have HEV6 := hid (RdSO.ext HEV5.out hx6)
  have HO6 := hid (HO5.out.ext hx6)
  have HK6 := hid (HK5.out.trans (hx6.keep _))
  have q11 := hx6.size
  obtain ⟨⟨u0, u1, u2, u3⟩, -⟩ := row4 HA6.out
  obtain ⟨⟨u4, u5, u6, u7⟩, -⟩ := row4 HC6.out
  obtain ⟨⟨x0, x1, x2, x3⟩, -⟩ := row4 HB6.out
  obtain ⟨⟨x4, x5, x6, x7⟩, -⟩ := row4 HD6.out
  have b0 := (cell_of_row _ _ 0 _ _ _ HRB6.out).trans rfl
  clear hb6 hx6 k0 kA kB kC kD
  have hcase : (kd = 1 ∧ zc = 0 ∧ y4 = false) ∨ kd ≠ 1 ∨ zc ≠ 0 ∨ y4 = true := by
    by_cases h1 : kd = 1
    · by_cases h2 : zc = 0
      · cases y4
        · exact .inl ⟨h1, h2, rfl⟩
        · exact .inr (.inr (.inr rfl))
      · exact .inr (.inr (.inl h2))
    · exact .inr (.inl h1)
  rcases hcase with ⟨rfl, rfl, rfl⟩ | hno
  · go_wp2_with fail
    have hxd : Ext w6 w6.drew := by (· repeat (first | (with_reducible assumption) | exact Ext.refl _ | refine Ext.alloc ?_ _ | refine Ext.drew ?_ | refine Ext.drewN ?_ _ | (apply Ext.snart; (with_reducible assumption))))
    have HXD6 := hid hxd
    refine wp_region_T (fun w' => w'.cell? ⟨gB, 0, none⟩ = some (.string zs) ∧ w'.cell? ⟨gB, 1, none⟩ = some (.string zk) ∧ w'.cell? ⟨gB, 2, none⟩ = some (.int .i64 zf) ∧ w'.cell? ⟨gB, 3, none⟩ = some (.slice ea ze.length ec) ∧ w'.cell? ⟨gD, 0, none⟩ = some (.string zs) ∧ w'.cell? ⟨gD, 1, none⟩ = some (.string zk) ∧ w'.cell? ⟨gD, 2, none⟩ = some (.int .i64 zf) ∧ w'.cell? ⟨gD, 3, none⟩ = some (.slice pa ze.length pc)) [] (by kernel_rfl) ⟨Ext.cellS hxd x0, Ext.cellS hxd x1, Ext.cellS hxd x2, Ext.cellS hxd x3, Ext.cellS hxd x4, Ext.cellS hxd x5, Ext.cellS hxd x6, Ext.cellS hxd x7⟩ (fun hS => ?_)
    clear hxd
    (refine wpAnyT_take (i := 0) (v := ?_) rfl (by kernel_rfl) (by kernel_rfl) (by kernel_rfl) (by kernel_rfl) (fun _ _ _ h => h) (Or.inl ⟨by rfl, ?_⟩) (by assumption) ?_; rotate_left; ((intro wS hSw; (try dsimp only at hSw); (try simp only [List.getElem_toArray, List.getElem_cons_zero, List.getElem_cons_succ]); go_simp); (try with_reducible rfl)); (try simp only [Act.put, List.getElem_toArray, List.getElem_cons_zero, List.getElem_cons_succ, List.setIfInBounds_toArray, List.set_cons_zero, List.set_cons_succ]))
    (refine wpAnyT_take (i := 1) (v := ?_) rfl (by kernel_rfl) (by kernel_rfl) (by kernel_rfl) (by kernel_rfl) (fun _ _ _ h => h) (Or.inl ⟨by rfl, ?_⟩) (by assumption) ?_; rotate_left; ((intro wS hSw; (try dsimp only at hSw); (try simp only [List.getElem_toArray, List.getElem_cons_zero, List.getElem_cons_succ]); go_simp); (try with_reducible rfl)); (try simp only [Act.put, List.getElem_toArray, List.getElem_cons_zero, List.getElem_cons_succ, List.setIfInBounds_toArray, List.set_cons_zero, List.set_cons_succ]))
    (refine wpAnyT_take (i := 3) (v := ?_) rfl (by kernel_rfl) (by kernel_rfl) (by kernel_rfl) (by kernel_rfl) (fun _ _ _ h => h) (Or.inl ⟨by rfl, ?_⟩) (by assumption) ?_; rotate_left; ((intro wS hSw; (try dsimp only at hSw); (try simp only [List.getElem_toArray, List.getElem_cons_zero, List.getElem_cons_succ]); go_simp); (try with_reducible rfl)); (try simp only [Act.put, List.getElem_toArray, List.getElem_cons_zero, List.getElem_cons_succ, List.setIfInBounds_toArray, List.set_cons_zero, List.set_cons_succ]))
    (refine wpAnyT_take (i := 4) (v := ?_) rfl (by kernel_rfl) (by kernel_rfl) (by kernel_rfl) (by kernel_rfl) (fun _ _ _ h => h) (Or.inl ⟨by rfl, ?_⟩) (by assumption) ?_; rotate_left; ((intro wS hSw; (try dsimp only at hSw); (try simp only [List.getElem_toArray, List.getElem_cons_zero, List.getElem_cons_succ]); go_simp); (try with_reducible rfl)); (try simp only [Act.put, List.getElem_toArray, List.getElem_cons_zero, List.getElem_cons_succ, List.setIfInBounds_toArray, List.set_cons_zero, List.set_cons_succ]))
    obtain ⟨W, hW⟩ : ∃ W, W = w6.drew := ⟨_, rfl⟩
    have HXW := HXD6.out
    rw [← hW] at HXW hS ⊢
    have hzW : W.heap.size = w6.heap.size := by rw [hW]; rfl
    clear hW HXD6
    have hqB : gB < w6.heap.size := by omega
    have hqD : gD < w6.heap.size := by omega
    have HBW := hid ((Below.block HXW gB hqB).trans HB6.out)
    have HDW := hid ((Below.block HXW gD hqD).trans HD6.out)
    have HEVW := hid (RdSO.ext HEV6.out HXW)
    have HOW := hid (HO6.out.ext HXW)
    have HKW := hid (HK6.out.trans (HXW.keep _))
    have hw0 : w.heap.size ≤ wc.heap.size := HXC.out.size
    have hw3 : w3.heap.size ≤ W.heap.size := by omega
    have SD := hid (H.out.more (N := fun k => wc.heap.size ≤ k ∧ k < w3.heap.size) (fun k hk => ⟨by omega, by omega⟩) HKW.out)
    have hTl : ∀ k, T k → k < w.heap.size := fun k hk => (H.out.lo k hk).2
    have hgw : w.heap.size = g0 := HG0.out
    refine wpAnyT_all (rs := [2]) (by kernel_rfl) (by decide) (AllT.consS rfl (fun K hK => ?_) AllT.nil)
    go_simp
    go_at_call 18
    refine (Add_idx W T g x SD.out.idx hall zs hzs zk hzk zf hzf (fun k => w1.heap.size ≤ k ∧ k < w2.heap.size) (fun j hj e => by have := hTl j e; have := HSZ.out.2.2.2.2; have := hj.1; omega) _ ze (RdEs.read HEVW.out) (by omega) (hstr zs)).mono ?_
    rintro e w7 ⟨rfl, hi7, hk7⟩
    have hS7 := hS
    have c7 : ∀ k o v, (k = gB ∨ k = gD) → W.cell? ⟨k, o, none⟩ = some v → w7.cell? ⟨k, o, none⟩ = some v := fun k o v hk h => hk7.cell h (fun e => by have := hTl _ e; simp only at this; have := HSZ.out.2.2.2.2; rcases hk with rfl | rfl <;> omega)
    have HI7 := hid hi7
    have HK7 := hid hk7
    have HO7 := hid (HOW.out.kept (hk7.mono fun j hj _ e => by
      have := hTl j e
      rcases hj with hj | hj
      · have := (H.out.lo j e).1; omega
      · have := (HO2.out.lt j hj).1; omega))
    have HEV7 := hid (RdSO.kept HEVW.out (hk7.mono fun j hj _ e => by have := hTl j e; have := hj.1; have := HSZ.out.2.2.2.2; omega))
    have z7 := hk7.size
    clear hi7 hk7
    (refine hK.out _ _ (⟨c7 _ _ _ (.inl rfl) hS7.1, c7 _ _ _ (.inl rfl) hS7.2.1, c7 _ _ _ (.inl rfl) hS7.2.2.1, c7 _ _ _ (.inl rfl) hS7.2.2.2.1, c7 _ _ _ (.inr rfl) hS7.2.2.2.2.1, c7 _ _ _ (.inr rfl) hS7.2.2.2.2.2.1, c7 _ _ _ (.inr rfl) hS7.2.2.2.2.2.2.1, c7 _ _ _ (.inr rfl) hS7.2.2.2.2.2.2.2⟩) (fun hS => ?_); clear hK K)
    clear c7 hS7
    have hmu : ∀ k, (U k ∨ (wc.heap.size ≤ k ∧ k < w3.heap.size)) → ¬ T k := fun k hk e => SD.out.dis k e hk
    have HR7 := hid (SD.out.rix.keep (HK7.out.mono fun k hk _ => hmu k hk))
    have hE7 : ∀ k, (E k ∨ (wc.heap.size ≤ k ∧ k < w3.heap.size)) → k < w7.heap.size := fun k hk => Nat.lt_of_lt_of_le (SD.out.up k (SD.out.EU k hk)) z7
    have HRD7 := hid (HO7.out.rd.mono (S' := fun k => E k ∨ (wc.heap.size ≤ k ∧ k < w3.heap.size)) fun k hk _ => by
      rcases hk with hk | hk
      · exact .inl (H.out.args k hk)
      · exact .inr (HOL2.out k hk))
    refine wpAnyT_all (rs := [5]) (by kernel_rfl) (by decide) (AllT.consS rfl (fun K hK => ?_) AllT.nil)
    go_simp
    go_at_call 78
    refine (RAdd_any w7 _ _ r L HR7.out HBK.2 (by omega) HBK.1 hE7 zs hzs zk hzk zf hzf _ ze HRD7.out (by omega)).mono ?_
    rintro e w8 ⟨rfl, hr8, hk8⟩
    have z8 := hk8.size
    have hS8 := hS
    have hnb : ∀ k, (w1.heap.size ≤ k ∧ k < w2.heap.size ∨ k = gB ∨ k = gD) → ¬ ((U k ∨ (wc.heap.size ≤ k ∧ k < w3.heap.size)) ∧ ¬ (E k ∨ (wc.heap.size ≤ k ∧ k < w3.heap.size))) := fun k hk e => by
      obtain ⟨e1, e2⟩ := e
      rcases e1 with e1 | e1
      · have := H.out.up k e1
        have := HSZ.out.2.2.2.2
        rcases hk with hk | rfl | rfl <;> omega
      · exact e2 (.inr e1)
    have c8 : ∀ k o v, (k = gB ∨ k = gD) → w7.cell? ⟨k, o, none⟩ = some v → w8.cell? ⟨k, o, none⟩ = some v := fun k o v hk h => hk8.cell h (hnb k (.inr hk))
    have HEV8 := hid (RdSO.kept HEV7.out (hk8.mono fun j hj _ => hnb j (.inl hj)))
    have SD8 := hid (SD.out.add (zs, zk, zf, ze) (by omega) HI7.out (fun k hk => hk) HK7.out hr8 (fun k hk => hk) (fun k hk => .inl hk) hk8)
    have HK8 := hid (show Keep (fun k => k < B) w w8 from (((HKW.out.mono fun j hj _ => Nat.lt_of_lt_of_le hj hB).trans (HK7.out.mono fun j hj _ e => by have := (H.out.lo j e).1; omega)).trans (hk8.mono fun j hj _ e => e.2 (.inl (H.out.args j hj)))))
    have herr : (addF x (zs, zk, zf, ze)).2 = (addR L (zs, zk, zf, ze)).2 := (H.out.rel.add (zs, zk, zf, ze)).1
    rw [herr]
    generalize (addR L (zs, zk, zf, ze)).2 = code
    clear hr8 hk8 herr
    (refine hK.out _ _ (⟨c8 _ _ _ (.inl rfl) hS8.1, c8 _ _ _ (.inl rfl) hS8.2.1, c8 _ _ _ (.inl rfl) hS8.2.2.1, c8 _ _ _ (.inl rfl) hS8.2.2.2.1, c8 _ _ _ (.inr rfl) hS8.2.2.2.2.1, c8 _ _ _ (.inr rfl) hS8.2.2.2.2.2.1, c8 _ _ _ (.inr rfl) hS8.2.2.2.2.2.2.1, c8 _ _ _ (.inr rfl) hS8.2.2.2.2.2.2.2⟩) (fun hS => ?_); clear hK K)
    clear c8 hS8 hnb hmu hE7
    refine wpAnyT_all (rs := [6]) (by kernel_rfl) (by decide) (AllT.consS rfl (fun K hK => ?_) AllT.nil)
    go_simp
    (refine hK.out _ _ (hS) (fun hS => ?_); clear hK K)
    refine wpAnyT_done (by kernel_rfl) (NoPanic.normal ?_) _
    have e8 := hS.2.2.2.1
    clear hS
    go_wp2_with fail
    refine (spoil_any w8 _ _ ze HEV8.out).mono ?_
    rintro e w9 ⟨rfl, hk9⟩
    have HK9 := hid hk9
    have hwT := HSZ.out.2.2.2.2
    have hcx := HSW.out
    clear hk9
    go_wp2_with fail
    go_ret
    refine ⟨rfl, ⟨_, _, _, _, _, SD8.out.keepTU (HK9.out.mono fun j hj _ e => ?_)⟩, HK8.out.trans (HK9.out.mono fun j hj _ e => by have := e.1; omega)⟩
    obtain ⟨e1, e2⟩ := e
    rcases hj with hj | hj
    · rcases hj with hj | hj
      · have := hTl j hj; omega
      · omega
    · rcases hj with (hj | hj) | hj
      · have := H.out.up j hj; omega
      · omega
      · omega
  · have hno' : kd ≠ 1 ∨ (kd = 1 ∧ zc ≠ 0) ∨ (kd = 1 ∧ zc = 0 ∧ y4 = true) := by
      rcases hno with h1 | h1 | h1
      · exact .inl h1
      · by_cases h2 : kd = 1
        · exact .inr (.inl ⟨h2, h1⟩)
        · exact .inl h2
      · by_cases h2 : kd = 1
        · by_cases h3 : zc = 0
          · exact .inr (.inr ⟨h2, h3, h1⟩)
          · exact .inr (.inl ⟨h2, h3⟩)
        · exact .inl h2
    clear hno
    rcases hno' with h1 | ⟨rfl, h1⟩ | ⟨rfl, rfl, rfl⟩
    all_goals
      go_wp2_with fail
      refine (spoil_any w6 _ _ ze HEV6.out).mono ?_
      rintro e w7 ⟨rfl, hk7⟩
      have HK7 := hid (show Keep (fun k => k < w.heap.size) w w7 from HK6.out.trans (hk7.mono fun j hj _ e => by have := e.1; have := HSZ.out.2.2.2.2; have := HG0.out; omega))
      go_wp2_with fail
      go_ret
      exact ⟨rfl, ⟨x, L, T, E, U, (H.out.kept HK7.out).mono (by omega)⟩, HK7.out.mono fun j hj _ => Nat.lt_of_lt_of_le hj hB⟩
end Go.Proofs.Ythobhkmphjnlaaa
