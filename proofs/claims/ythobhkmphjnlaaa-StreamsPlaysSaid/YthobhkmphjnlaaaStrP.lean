/- streams: All, walked. -/
import Derived.Test.YthobhkmphjnlaaaStrO
namespace Go.Proofs.Ythobhkmphjnlaaa
open Go.RowKit
set_option linter.unusedVariables false
set_option linter.unusedSimpArgs false

theorem OwnS.headS {α : Type} {r : Rdr α} {t : TypeId} {w : World} {base : Nat} {S : Nat → Prop} {v : Value} {xs : List α} (h : OwnS r t w base S v xs) (hn : 0 < xs.length) : ∃ g c cur, v = .slice (some ⟨g, 0, none⟩) xs.length c ∧ base ≤ g ∧ g < w.heap.size ∧ ¬ S g ∧ w.heap[g]? = some (.cells cur t (0, 0)) := by
  obtain ⟨gs, rfl, ⟨h1, h2⟩, h3, h4⟩ := h
  rcases h2 with ⟨h2, h2'⟩ | ⟨g', cap', cur, h2, hb, hg, hn, hm, hcs, hx⟩
  · rw [List.length_map, h2'] at hn; exact absurd hn (Nat.lt_irrefl _)
  · subst h2
    exact ⟨g', cap', cur, by rw [List.length_map], hb, (Array.getElem?_eq_some_iff.1 hg).1, h3 g' rfl, hg⟩

theorem rEnt_cells {w : World} {S : Nat → Prop} {cs : List Value} {e : Ent} (h : rEnt.rd w S cs e) : ∃ fv, cs = [.int .i64 e.1, .string e.2.1, .int .i64 e.2.2.1, .string e.2.2.2.1, .int .i64 e.2.2.2.2.1, fv] ∧ RdS rF w S fv e.2.2.2.2.2 := by
  obtain ⟨_, _, rfl, ⟨rfl, _⟩, _, _, rfl, ⟨rfl, _⟩, _, _, rfl, ⟨rfl, _⟩, h⟩ := h
  obtain ⟨fv, rfl, _, _, h3⟩ := rE_cells h
  exact ⟨fv, rfl, h3⟩
theorem rEnt_turn {w w' : World} {S S' : Nat → Prop} {fv fv' : Value} {e : Ent} (h : rEnt.rd w S [.int .i64 e.1, .string e.2.1, .int .i64 e.2.2.1, .string e.2.2.2.1, .int .i64 e.2.2.2.2.1, fv] e) (hf : RdS rF w' S' fv' e.2.2.2.2.2) :
    rEnt.rd w' S' [.int .i64 e.1, .string e.2.1, .int .i64 e.2.2.1, .string e.2.2.2.1, .int .i64 e.2.2.2.2.1, fv'] e := by
  obtain ⟨_, _, h0, ⟨rfl, h1⟩, _, _, rfl, ⟨rfl, h2⟩, _, _, rfl, ⟨rfl, h3⟩, h⟩ := h
  obtain ⟨fv1, rfl, h4, h5, _⟩ := rE_cells h
  exact ⟨[_], _, rfl, ⟨rfl, h1⟩, [_], _, rfl, ⟨rfl, h2⟩, [_], _, rfl, ⟨rfl, h3⟩, [_], _, rfl, ⟨rfl, h4⟩, [_], _, rfl, ⟨rfl, h5⟩, hf⟩

theorem rEnt_turnO {w w' : World} {S S' : Nat → Prop} {fv fv' : Value} {e : Ent} (h : rEnt.rd w S [.int .i64 e.1, .string e.2.1, .int .i64 e.2.2.1, .string e.2.2.2.1, .int .i64 e.2.2.2.2.1, fv] e) (hf : RdSO rF 108 w' S' fv' e.2.2.2.2.2) :
    rEntO.rd w' S' [.int .i64 e.1, .string e.2.1, .int .i64 e.2.2.1, .string e.2.2.2.1, .int .i64 e.2.2.2.2.1, fv'] e := by
  obtain ⟨_, _, h0, ⟨rfl, h1⟩, _, _, rfl, ⟨rfl, h2⟩, _, _, rfl, ⟨rfl, h3⟩, h⟩ := h
  obtain ⟨fv1, rfl, h4, h5, _⟩ := rE_cells h
  exact ⟨[_], _, rfl, ⟨rfl, h1⟩, [_], _, rfl, ⟨rfl, h2⟩, [_], _, rfl, ⟨rfl, h3⟩, [_], _, rfl, ⟨rfl, h4⟩, [_], _, rfl, ⟨rfl, h5⟩, hf⟩

theorem makeEnt (w : World) : (Instr.makeSlice 49 (.int .i64 0) (.int .i64 0)).run Try.prog w = .ok (.slice (some ⟨w.heap.size, 0, none⟩) 0 0) (w.alloc (.cells #[] 71)) := by
  obtain ⟨i0, hi, hz0, hz1, hz2⟩ := info_parts infoEnt
  have h := run_makeSlice (P := Try.prog) w _ _ i0 _ Try.underlying49 hi hz0 .i64 .i64 0 0 (by omega) (by omega) (by simp) (by simp) (by omega)
  simpa [madeCells, Array.range_zero'] using h

set_option maxRecDepth 100000 in
set_option maxHeartbeats 1000000 in
theorem All_any (w : World) (g : Nat) (ρ : Nat → Option Rol) (ns nk : Nat) (x : Ix) (h : IxAt w g ρ ns nk x) (hall : x.all.length ≤ 1000000) (hfl : ∀ e ∈ x.all, e.2.2.2.2.2.length ≤ 1000000) (p q : Nat) (hp : p ≤ 9223372036854775807) (hq : q ≤ 9223372036854775807) :
    Calls Try.prog 25 #[.pointer (some ⟨g, 0, none⟩), .int .i64 p, .int .i64 q] w fun e w' => ∃ v, e = .returned (.tuple #[v, .int .i64 0]) ∧ RdS rEnt w' (fun _ => True) v ((x.all.drop p).take q) ∧ Ext w w' := by
  obtain ⟨va, gs, gk, ms, mk, h⟩ := h
  have c0 := h.c0
  have HA := hid (h.all.rd.mono (S' := fun k => k < w.heap.size) fun k _ hk => hk)
  have hgw := h.lt g (by rw [h.rg]; simp)
  clear h
  have hne : ¬ g = w.heap.size := by omega
  have hne' : ¬ w.heap.size = g := by omega
  have hx1 := (Ext.refl w).alloc (.cells #[] 71)
  have c01 := hx1.cellS c0
  have HX1 := hid hx1
  have HM := OwnS.made rEnt 71 w (fun k => k < w.heap.size) (Nat.lt_irrefl _)
  clear hx1
  have hmk := fun w => makeEnt w
  obtain ⟨L, hL⟩ : ∃ L, L = (x.all.drop p).take q := ⟨_, rfl⟩
  have hLf : ∀ e ∈ L, e.2.2.2.2.2.length ≤ 1000000 := fun e he => hfl e (by rw [hL] at he; exact List.mem_of_mem_drop (List.mem_of_mem_take he))
  have hLl : L.length ≤ 1000000 := by rw [hL, List.length_take, List.length_drop]; omega
  have HLF := hid hLf
  rw [← hL]
  have HLE := hid hL
  clear hL hfl hLf
  go_enter Try.func25, Try.ntmps25
  go_wp2_with fail
  refine (cutE_any _ (fun k => k < w.heap.size) va x.all (HA.out.ext HX1.out) p q hp hq).mono ?_
  rintro e w1 ⟨v1, rfl, hv1, rfl⟩
  rw [← HLE.out] at hv1
  obtain ⟨a1, n1, rfl, -, -⟩ := hv1.slice
  obtain ⟨gs1, hgs1, hsrc, hg1⟩ := hv1.src Try.underlying49
  have HSRC := hid hsrc
  have HG1 := hid hg1
  have HGS := hid hgs1
  have HLEN := hid (show gs1.length = L.length by rw [hgs1, List.length_map])
  clear hv1 hsrc hg1 hgs1 hmk
  go_wp2_with (at_builtin; go_must (refine wl_appS rEnt rfl _ _ _ _ _ _ 80 rfl Try.underlying49 infoEnt rfl w.heap.size _ _ [] rfl HM _ gs1 rfl HSRC.out HG1.out (fun _ hk => Nat.lt_of_lt_of_le hk HX1.out.size) (by rw [HLEN.out]; simp; omega) (by rw [HLEN.out]; simp; omega) (by simp) ?_; intro v8 w8 k1 k2 k3; rw [List.nil_append, ← HGS.out] at k1; have HX8 := hid (HX1.out.grown k2 (fun k hk => by cases hk; exact Nat.le_refl _)); obtain ⟨a8, c8, rfl⟩ := k1.slice; have HO8 := hid k1; clear k1 k2 k3))
  go_loopw [9, 32] (fun u9 u32 wr => ∃ i : Nat, u32 = .int .i64 i ∧ i ≤ L.length ∧ OwnS rEnt 71 wr w.heap.size (fun k => (Value.slice a8 L.length c8).ownBlock ≠ some k ∧ k < wr.heap.size) (.slice a8 L.length c8) L ∧ Ext w wr) (fun _ u32 _ => L.length - (intOf u32).toNat)
  case atStart => exact ⟨0, rfl, Nat.zero_le _, HO8.out.widen (fun k hk hl => ⟨fun e => by have := (HO8.out.lt k e).1; omega, hl⟩) (fun k e hk => hk.1 e), HX8.out⟩
  case round =>
    obtain ⟨wo, rfl⟩ : ∃ wo : World, wo = wr := ⟨_, rfl⟩
    obtain ⟨i, rfl, hi, ho, hx⟩ := hrel
    have HX := hid hx
    by_cases hlt : i < L.length
    · obtain ⟨g8, cc, cur, e, hb8, hg8, hS8, hr8⟩ := ho.headS (by omega)
      obtain ⟨g9, o9, cap9, cs, e9, -, -, hcs, hcc, hrd⟩ := ho.rd.at i hlt
      simp only [Value.slice.injEq] at e e9
      obtain ⟨rfl, -, rfl⟩ := e
      simp only [Option.some.injEq, Addr.mk.injEq] at e9
      obtain ⟨⟨rfl, rfl, -⟩, -, -⟩ := e9
      obtain ⟨fv, rfl, hf⟩ := rEnt_cells hrd
      have b0 := hcc 0 _ rfl
      have b1 := hcc 1 _ rfl
      have b2 := hcc 2 _ rfl
      have b3 := hcc 3 _ rfl
      have b4 := hcc 4 _ rfl
      have b5 := hcc 5 _ rfl
      simp only [Nat.zero_add, Nat.add_zero, show rEnt.size = 6 from rfl] at b0 b1 b2 b3 b4 b5
      have HLFi := hid (HLF.out L[i] (List.getElem_mem hlt))
      generalize hent : L[i] = ent at b0 b1 b2 b3 b4 b5 hf hrd HLFi
      have HEN := hid hent
      have HF := hid hf
      have HRD := hid hrd
      have HO := hid ho
      have HR8 := hid hr8
      clear hcc hf hrd ho hr8 hx hent
      go_wp2_with fail
      refine (copied_any wo _ _ _ _ _ _ fv _ HF.out HLFi.out).mono ?_
      rintro e w2 ⟨fv', rfl, hf', hx2⟩
      obtain ⟨fa', fc', rfl, -, -⟩ := hf'.slice
      have HF2 := hid hf'
      have HX2 := hid hx2
      have hr82 := (Below.block hx2 g8 hg8).trans HR8.out
      replace b0 := hx2.cellS b0
      replace b1 := hx2.cellS b1
      replace b2 := hx2.cellS b2
      replace b3 := hx2.cellS b3
      replace b4 := hx2.cellS b4
      replace b5 := hx2.cellS b5
      have f0 := frozen_blk hr82 (i * 6)
      have f1 := frozen_blk hr82 (i * 6 + 1)
      have f2 := frozen_blk hr82 (i * 6 + 2)
      have f3 := frozen_blk hr82 (i * 6 + 3)
      have f4 := frozen_blk hr82 (i * 6 + 4)
      have f5 := frozen_blk hr82 (i * 6 + 5)
      clear hf' hx2 hr82
      go_wp2_with fail
      go_roundw
      case rel =>
        have hbk : ∀ k, (Value.slice (some ⟨g8, 0, none⟩) L.length c8).ownBlock = some k → g8 = k := fun k e => by
          simpa [Value.ownBlock] using e
        have ho2 : OwnS rEnt 71 w2 w.heap.size (fun k => (Value.slice (some ⟨g8, 0, none⟩) L.length c8).ownBlock ≠ some k ∧ k < w2.heap.size) (.slice (some ⟨g8, 0, none⟩) L.length c8) L :=
          (HO.out.ext HX2.out).widen (fun k hk _ => ⟨hk.1, Nat.lt_of_lt_of_le hk.2 HX2.out.size⟩) (fun k e hk => hk.1 e)
        have hput := ho2.put6 rfl i hlt (.int .i64 ent.1) (.string ent.2.1) (.int .i64 ent.2.2.1) (.string ent.2.2.2.1) (.int .i64 ent.2.2.2.2.1) (.slice fa' ent.2.2.2.2.2.length fc') (by
          rw [HEN.out]
          exact rEnt_turn HRD.out (HF2.out.rd.mono fun k hk hl => ⟨fun e => by have := hbk k e; have h2 : wo.heap.size ≤ k := hk; omega, hl⟩))
        simp only [Nat.add_zero] at hput
        refine ⟨i + 1, by go_num, by omega, hput.widen (fun k hk hl => ⟨hk.1, hl⟩) (fun k e hk => hk.1 e), ?_⟩
        exact ((((((HX.out.trans HX2.out).setCell (p := ⟨g8, _, none⟩) hb8 _).setCell (p := ⟨g8, _, none⟩) hb8 _).setCell (p := ⟨g8, _, none⟩) hb8 _).setCell (p := ⟨g8, _, none⟩) hb8 _).setCell (p := ⟨g8, _, none⟩) hb8 _).setCell (p := ⟨g8, _, none⟩) hb8 _
      case measure => simp [intOf]; omega
    · go_wp2_with fail
      refine bodyPost_ret (v := .tuple #[.slice a8 L.length c8, .int .i64 0]) (by simp [results, Try.results25, go_sem]) rfl ⟨_, rfl, ho.rdT, HX.out⟩
end Go.Proofs.Ythobhkmphjnlaaa
