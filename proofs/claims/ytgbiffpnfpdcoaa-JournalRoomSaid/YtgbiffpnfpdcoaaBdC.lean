/- blockdev.Write, walked. -/
import Derived.Test.YtgbiffpnfpdcoaaBdB
import Derived.Great.BuildSlice
namespace Go.Proofs.Ytgbiffpnfpdcoaa
open Go.RowKit Go.Maps
set_option linter.unusedVariables false
set_option linter.unusedSimpArgs false

theorem wp_appS {α : Type} (r : Rdr α) {w : World} {o : Oper} {a : Act} {K : Act → World → Prop} {Q : Exit → Act → World → Prop} (s x : Operand) (ts tx t : TypeId) (z : Value) (bytes : Nat)
    (ho : o.op = .call { callee := .builtin .append, args := #[s, x], argTypes := #[ts, tx] }) (hts : Try.prog.underlying ts = some (.slice t)) (hinfo : (Try.prog.info? t).map (fun i => (i.zero, i.size, i.bytes)) = some (some z, r.size, bytes)) (hzs : z.cells.size = r.size) (base : Nat) (S : Nat → Prop)
    (v : Value) (xs : List α) (hs : a.eval s = v) (happ : OwnS r t w base S v xs)
    (y : Value) (gs : List (List Value × α)) (hx : a.eval x = y) (hsrc : Src Try.prog r.size tx y gs.length (cellsOf gs) w) (hgs : ∀ p ∈ gs, r.rd w S p.1 p.2) (hSlt : ∀ k, S k → k < w.heap.size)
    (hbytes : (xs.length + gs.length) * bytes ≤ 140737488355328) (h63 : xs.length + gs.length ≤ 9223372036854775807) (hbase : base ≤ w.heap.size)
    (h : ∀ v' w', OwnS r t w' base S v' (xs ++ gs.map (·.2)) → w.grownBy w' v.ownBlock → (∀ k, v'.ownBlock = some k → v.ownBlock = some k ∨ w.heap.size ≤ k) → K (a.put o.dst v') w') : o.wp Try.prog a w K Q := by
  obtain ⟨i0, hi, hz0, hz1, hz2⟩ := info_parts hinfo
  obtain ⟨hs0, rfl, g2, gS, g3⟩ := happ
  rw [List.length_map] at hbytes h63
  refine wp_append_app s x ts tx ho base t i0 z r.size bytes hts hi hz0 hz1 hz2 hzs v hs0.length (cellsOf hs0) hs (.inl g2) (fun u hu => by obtain ⟨p, hp, hu⟩ := List.mem_flatMap.1 hu; exact r.one (g3 p hp) u hu) y gs.length (cellsOf gs) hx hsrc h63 hbytes hbase ?_
  intro v' w' h1 h2 h3 h4 h5 h6
  refine h v' w' ⟨hs0 ++ gs, by simp, ?_, fun k hk hSk => ?_, fun p hp => ?_⟩ h4 h6
  · rw [List.length_append, show cellsOf (hs0 ++ gs) = cellsOf hs0 ++ cellsOf gs from by simp [cellsOf]]
    exact h3 g2
  · rcases h6 k hk with hh | hh
    · exact gS k hh hSk
    · have := hSlt k hSk; omega
  · have all : r.rd w S p.1 p.2 := by
      rcases List.mem_append.1 hp with hp | hp
      · exact g3 p hp
      · exact hgs p hp
    exact r.keep all h4.size (fun k hk hl => h4.block k hl (fun e => gS k e.symm hk)) fun _ h _ => h
theorem src_row {w : World} {gb : Nat} {cs : List Value} {t ts : TypeId} {size : Nat} (hts : Try.prog.underlying ts = some (.slice t)) (hrow : w.heap[gb]? = some (.cells cs.toArray t (0, 0))) (h1 : ∀ u ∈ cs, u.oneCell' = true) (hl : cs.length = 1 * size) : Src Try.prog size ts (.slice (some ⟨gb, 0, none⟩) 1 1) 1 cs w := by
  refine Src.ofSlice _ hts ⟨gb, 0, none⟩ 1 1 cs hl (fun j u hu => ?_) h1
  rw [show (⟨gb, 0, none⟩ : Addr).add j = ⟨gb, j, none⟩ from by unfold Addr.add; split <;> simp_all, cell_of_row _ _ _ _ _ _ hrow]
  simpa using hu
theorem fill_foldl (l : List Value) : ∀ (k : Nat) (cs : Array Value) (i : Nat), ((l.zipIdx k).foldl (fun cs (x : Value × Nat) => cs.setIfInBounds (0 + x.2) x.1) cs).size = cs.size ∧
    ((l.zipIdx k).foldl (fun cs (x : Value × Nat) => cs.setIfInBounds (0 + x.2) x.1) cs)[i]? = if k ≤ i ∧ i < k + l.length ∧ i < cs.size then l[i - k]? else cs[i]? := by
  induction l with
  | nil => intro k cs i; simp; omega
  | cons a l ih =>
    intro k cs i
    rw [List.zipIdx_cons, List.foldl_cons]
    obtain ⟨h1, h2⟩ := ih (k + 1) (cs.setIfInBounds (0 + k) a) i
    refine ⟨by rw [h1]; simp, ?_⟩
    rw [h2, Array.size_setIfInBounds, Array.getElem?_setIfInBounds]
    by_cases e : i = k
    · subst e
      by_cases hi : i < cs.size
      · simp [hi]; intro h; omega
      · simp [hi]
    · by_cases h3 : k + 1 ≤ i ∧ i < k + 1 + l.length ∧ i < cs.size
      · rw [if_pos h3, if_pos (by simp only [List.length_cons]; omega), show i - k = (i - (k + 1)) + 1 by omega, List.getElem?_cons_succ]
      · rw [if_neg h3, if_neg (by omega), if_neg (by simp only [List.length_cons]; omega)]
theorem fill_one (cells arr : Array Value) (size : Nat) (h1 : arr.size = size) (h2 : cells.size = size) : Instr.fill (fun i => some (i * size, size)) cells [(0, .agg arr)] = some arr := by
  have hc : (Value.agg arr).cells = arr := rfl
  simp only [Instr.fill, hc]
  rw [if_neg (by simp [h1, h2])]
  congr 1
  rw [← Array.foldl_toList, Array.toList_zipIdx]
  apply Array.ext_getElem?
  intro i
  have := (fill_foldl arr.toList 0 cells i)
  simp only [Nat.zero_mul] at *
  rw [this.2]
  by_cases hi : i < size
  · rw [if_pos (by simp; omega)]; simp
  · rw [if_neg (by simp; omega), Array.getElem?_eq_none (by omega), Array.getElem?_eq_none (by omega)]
theorem buildBk (w : World) (b : Bk) (h : b.length = 512) : (Instr.buildSlice 89 1 #[(0, .agg (bvs b).toArray)]).run Try.prog w = .ok (.slice (some ⟨w.heap.size, 0, none⟩) 1 1) (w.alloc (.cells (bvs b).toArray 102)) := by
  obtain ⟨i0, hi, hz0, hz1, hz2⟩ := info_parts infoBk
  refine Go.run_buildSlice w 89 102 1 _ _ i0 _ Try.underlying89 hi hz0 (by rw [hz1]; omega) (by rw [hz1]; omega) ?_
  rw [hz1]
  exact fill_one _ _ 512 (by simp [bvs, h]) (by simp)
theorem zeroBks (w : World) : (zeroValue 89).run Try.prog w = .ok (.slice none 0 0) w := by kernel_rfl

/-- the roles behind a write whose row is now v' -/
def rolW (ρ : Nat → Option DRol) (v' : Value) (n : Int) : Nat → Option DRol := fun k => if v'.ownBlock = some k then some (.row n) else ρ k
def setP (f : Int → List Bk) (n : Int) (l : List Bk) : Int → List Bk := fun t => if t = n then l else f t

/-- behind 'd.pending[n] = append(d.pending[n], b)' -/
theorem DvP.write {w wA wB w' : World} {g : Nat} {ρ : Nat → Option DRol} {N : Nat} {d : Dv} {vs : Value} {gm : Nat} {m : Int → Option Value} (h : DvP w g ρ N d vs gm m) {n : Int} (hn : kInt.ok n) (hr : 0 ≤ n ∧ n < d.safe.length) {b : Bk} {v' : Value} {N' : Nat} (hl : (d.pend n).length < N') (hNN : N ≤ N') (hxA : Ext w wA)
    (ho : OwnS rBk 102 wB 0 (fun _ => False) v' (d.pend n ++ [b])) (hgB : wA.grownBy wB ((m n).getD nilS).ownBlock) (hv' : ∀ k, v'.ownBlock = some k → ((m n).getD nilS).ownBlock = some k ∨ wA.heap.size ≤ k)
    (hm : MapG kInt w' gm N' (upd m n v')) (hg : wB.grownBy w' (some gm)) :
    DvP w' g (rolW ρ v' n) N' { d with pend := setP d.pend n (d.pend n ++ [b]) } vs gm (upd m n v') ∧ Keep (fun k => ρ k = none) w w' ∧ (∀ k, rolW ρ v' n k ≠ none → ρ k ≠ none ∨ w.heap.size ≤ k) := by
  have hkB : Keep (fun j => ¬ ((m n).getD nilS).ownBlock = some j) w wB := (hxA.keep _).trans ((keep_grown hgB).mono fun j hj _ e => hj e.symm)
  have hkC : Keep (fun j => j ≠ gm) wB w' := (keep_grown hg).mono fun j hj _ e => hj (Option.some.inj e)
  have hk : Keep (fun j => ¬ ((m n).getD nilS).ownBlock = some j ∧ j ≠ gm) w w' := (hkB.mono fun j hj _ => hj.1).trans (hkC.mono fun j hj _ => hj.2)
  have hold : ∀ k, ρ k ≠ none → ρ k ≠ some (.row n) → ¬ v'.ownBlock = some k := fun k h1 h2 e => by
    rcases hv' k e with e' | e'
    · exact h2 (h.rpend n hn k e')
    · have := h.lt k h1; have := hxA.size; omega
  have hro : ∀ k r, ρ k = some r → (∀ e, r ≠ .row e) → rolW ρ v' n k = some r ∧ (¬ ((m n).getD nilS).ownBlock = some k) := fun k r h1 h2 => by
    refine ⟨?_, fun e => ?_⟩
    · unfold rolW
      rw [if_neg (hold k (by rw [h1]; simp) (by rw [h1]; intro e; exact h2 n (Option.some.inj e)))]
      exact h1
    · have := h.rpend n hn k e
      rw [h1] at this
      exact h2 n (Option.some.inj this)
  have hg0 := hro g _ h.rg (by simp)
  have hm0 := hro gm _ h.rm (by simp)
  have hvlt : ∀ k, v'.ownBlock = some k → k < w'.heap.size := fun k hkk => Nat.lt_of_lt_of_le (ho.lt k hkk).2 hkC.size
  refine ⟨{
    head := by rw [hk.block g ⟨hg0.2, h.ne⟩ h.glt]; exact h.head
    rg := hg0.1
    safe := ?_
    rsafe := fun k hkk => (hro k _ (h.rsafe k hkk) (by simp)).1
    map := hm
    rm := hm0.1
    pend := fun t ht => ?_
    rpend := fun t ht k hkk => ?_
    has := fun t ht => ?_
    rng := fun t ht => ?_
    lt := fun k hr => ?_
    size := h.size
    fuse := h.fuse
    ops := ⟨h.ops.1, by have := h.ops.2; dsimp only; omega⟩
    long := fun t => ?_ }, hk.mono fun k hr _ => ⟨fun e => by have := h.rpend n hn k e; rw [hr] at this; simp at this, fun e => by rw [e, h.rm] at hr; simp at hr⟩, fun k hr => ?_⟩
  · exact h.safe.kept (hk.mono fun j hj _ => by
      rcases hj with hj | hj
      · exact hj.elim
      · have hj := h.rsafe j hj
        exact ⟨(hro j _ hj (by simp)).2, fun e => by rw [e, h.rm] at hj; simp at hj⟩)
  · by_cases e : t = n
    · subst e
      rw [upd_same]
      simp only [setP, if_true, Option.getD_some]
      refine ho.kept (hkC.mono fun j hj _ e => ?_)
      subst e
      rcases hj with hj | hj
      · exact hj.elim
      · rcases hv' _ hj with hj | hj
        · exact hm0.2 hj
        · have := h.map.lt; have := hxA.size; omega
    · rw [upd_other _ _ e]
      simp only [setP, if_neg e]
      refine (h.pend t ht).kept (hk.mono fun j hj _ => ?_)
      rcases hj with hj | hj
      · exact hj.elim
      · have h1 := h.rpend t ht j hj
        refine ⟨fun e' => ?_, fun e' => by rw [e', h.rm] at h1; simp at h1⟩
        have h2 := h.rpend n hn j e'
        rw [h1] at h2
        simp only [Option.some.injEq, DRol.row.injEq] at h2
        exact e h2
  · by_cases e : t = n
    · subst e
      rw [upd_same] at hkk
      simp only [Option.getD_some] at hkk
      unfold rolW
      rw [if_pos hkk]
    · rw [upd_other _ _ e] at hkk
      have h1 := h.rpend t ht k hkk
      unfold rolW
      rw [if_neg (hold k (by rw [h1]; simp) (by rw [h1]; intro e'; simp only [Option.some.injEq, DRol.row.injEq] at e'; exact e e'))]
      exact h1
  · by_cases e : t = n
    · subst e
      rw [upd_same]; simp [setP]
    · rw [upd_other _ _ e]
      simp only [setP, if_neg e]
      exact h.has t ht
  · by_cases e : t = n
    · subst e; exact hr
    · simp only [setP, if_neg e] at ht
      exact h.rng t ht
  · unfold rolW at hr
    split at hr
    · rename_i e; exact hvlt k e
    · exact Nat.lt_of_lt_of_le (h.lt k hr) hk.size
  · by_cases e : t = n
    · subst e; simp only [setP, if_true, List.length_append, List.length_singleton]; omega
    · simp only [setP, if_neg e]; exact Nat.le_trans (h.long t) hNN
  · unfold rolW at hr
    split at hr
    · rename_i e
      rcases hv' k e with e' | e'
      · left; rw [h.rpend n hn k e']; simp
      · right; have := hxA.size; omega
    · exact .inl hr

theorem opF_same (d : Dv) (n wr : Int) : (opF d n wr).2.safe = d.safe ∧ (opF d n wr).2.pend = d.pend := by
  unfold opF
  repeat' split
  all_goals exact ⟨rfl, rfl⟩
theorem opF_ok {d : Dv} {n wr : Int} (h : (opF d n wr).1 = 0) : wr = 0 ∧ 0 ≤ n ∧ n < d.safe.length := by
  unfold opF at h
  repeat' split at h
  all_goals (try simp only at h)
  all_goals omega

/-- what a write comes to -/
def writeF (d : Dv) (n : Int) (data : List UInt8) : Int × Dv :=
  if (opF d n (if data.length = 512 then 0 else 21)).1 = 0 then (0, { (opF d n (if data.length = 512 then 0 else 21)).2 with pend := setP d.pend n (d.pend n ++ [data]) }) else opF d n (if data.length = 512 then 0 else 21)
def WrEnd (w : World) (g : Nat) (ρ : Nat → Option DRol) (N : Nat) (X : Int × Dv) (e : Ending) (w' : World) : Prop :=
  e = .returned (.int .i64 X.1) ∧ ∃ ρ', DvAt w' g ρ' N X.2 ∧ Keep (fun k => ρ k = none) w w' ∧ ∀ k, ρ' k ≠ none → ρ k ≠ none ∨ w.heap.size ≤ k

theorem Write_nil (w : World) (n : Int) (v : Value) (data : List UInt8) (hv : RdB w v data) : Calls Try.prog 27 #[.pointer none, .int .i64 n, v] w fun e w' => e = .returned (.int .i64 1) ∧ w = w' := by
  obtain ⟨a, c, rfl, _⟩ := hv
  by_cases h : data.length = 512
  · go_enter Try.func27, Try.ntmps27
    go_wp2_with fail
    refine (operate_nil _ _ _).mono ?_
    rintro e w1 ⟨rfl, rfl⟩
    go_wp2_with fail
    go_ret
    exact ⟨rfl, rfl⟩
  · have h1 : ((data.length : Int) != 512) = true := by simp; omega
    go_enter Try.func27, Try.ntmps27
    go_wp2_with fail
    refine (operate_nil _ _ _).mono ?_
    rintro e w1 ⟨rfl, rfl⟩
    go_wp2_with fail
    go_ret
    exact ⟨rfl, rfl⟩
end Go.Proofs.Ytgbiffpnfpdcoaa
