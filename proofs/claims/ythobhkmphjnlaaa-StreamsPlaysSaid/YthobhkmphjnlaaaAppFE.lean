/- append to a row of fields, to a row of events: as a step of a region that draws, as a step of the text. -/
import Derived.Test.YthobhkmphjnlaaaEv
import Derived.Test.YthobhkmphjnlaaaPut
namespace Go.Proofs.Ythobhkmphjnlaaa
open Go.RowKit
set_option linter.unusedVariables false
set_option linter.unusedSimpArgs false

theorem infoFld : (Try.prog.info? 108).map (fun i => (i.zero, i.size, i.bytes)) = some (some (.agg #[.string ⟨#[]⟩, .bool false, .int .i64 0, .string ⟨#[]⟩]), 4, 48) := by kernel_rfl
theorem infoEvt : (Try.prog.info? 46).map (fun i => (i.zero, i.size, i.bytes)) = some (some (.agg #[.string ⟨#[]⟩, .int .i64 0, .slice none 0 0]), 3, 48) := by kernel_rfl

theorem wp_appS {α : Type} (r : Rdr α) {w : World} {o : Oper} {a : Act} {K : Act → World → Prop} {Q : Exit → Act → World → Prop} (s x : Operand) (ts tx t : TypeId) (z : Value) (bytes : Nat)
    (ho : o.op = .call { callee := .builtin .append, args := #[s, x], argTypes := #[ts, tx] }) (hts : Try.prog.underlying ts = some (.slice t)) (hinfo : (Try.prog.info? t).map (fun i => (i.zero, i.size, i.bytes)) = some (some z, r.size, bytes)) (hzs : z.cells.size = r.size) (base : Nat) (S : Nat → Prop)
    (v : Value) (xs : List α) (hs : a.eval s = v) (happ : OwnS r t w base S v xs)
    (y : Value) (gs : List (List Value × α)) (hx : a.eval x = y) (hsrc : Src Try.prog r.size tx y gs.length (cellsOf gs) w) (hgs : ∀ p ∈ gs, r.rd w S p.1 p.2) (hSlt : ∀ k, S k → k < w.heap.size)
    (hbytes : (xs.length + gs.length) * bytes ≤ 140737488355328) (h63 : xs.length + gs.length ≤ 9223372036854775807) (hbase : base ≤ w.heap.size)
    (h : ∀ v' w', OwnS r t w' base S v' (xs ++ gs.map (·.2)) → w.grownBy w' v.ownBlock → (∀ k, v'.ownBlock = some k → v.ownBlock = some k ∨ w.heap.size ≤ k) → K (a.put o.dst v') w') : o.wp Try.prog a w K Q := by
  obtain ⟨i0, hi, hz0, hz1, hz2⟩ := info_parts hinfo
  obtain ⟨hs0, rfl, g2, gS, g3⟩ := happ
  rw [List.length_map] at hbytes h63
  refine wp_append_app s x ts tx ho base t i0 z r.size bytes hts hi hz0 hz1 hz2 hzs v hs0.length (cellsOf hs0) hs (.inl g2) (fun u hu => by obtain ⟨p, hp, hu⟩ := List.mem_flatMap.1 hu; exact r.one (g3 p hp) u hu) y gs.length (cellsOf gs) hx hsrc h63 hbytes hbase ?_
  intro v' w' h1 h2 h3 h4 h5 h6
  refine h v' w' ⟨hs0 ++ gs, by simp, ?_, fun k hk hSk => ?_, fun p hp => ?_⟩ h4 h6
  · rw [List.length_append, show cellsOf (hs0 ++ gs) = cellsOf hs0 ++ cellsOf gs from by simp [cellsOf]]
    exact h3 g2
  · rcases h6 k hk with hh | hh
    · exact gS k hh hSk
    · have := hSlt k hSk; omega
  · have all : r.rd w S p.1 p.2 := by
      rcases List.mem_append.1 hp with hp | hp
      · exact g3 p hp
      · exact hgs p hp
    exact r.keep all h4.size (fun k hk hl => h4.block k hl (fun e => gS k e.symm hk)) fun _ h _ => h
theorem src_row {w : World} {gb : Nat} {cs : List Value} {t ts : TypeId} {size : Nat} (hts : Try.prog.underlying ts = some (.slice t)) (hrow : w.heap[gb]? = some (.cells cs.toArray t (0, 0))) (h1 : ∀ u ∈ cs, u.oneCell' = true) (hl : cs.length = 1 * size) : Src Try.prog size ts (.slice (some ⟨gb, 0, none⟩) 1 1) 1 cs w := by
  refine Src.ofSlice _ hts ⟨gb, 0, none⟩ 1 1 cs hl (fun j u hu => ?_) h1
  rw [show (⟨gb, 0, none⟩ : Addr).add j = ⟨gb, j, none⟩ from by unfold Addr.add; split <;> simp_all, cell_of_row _ _ _ _ _ _ hrow]
  simpa using hu

theorem step_appFld {w : World} {ops : Array Oper} {o : Oper} {a : Act} {K : Act → World → Prop} {Q : Exit → Act → World → Prop} {E : Prop} (hgd : o.guard = none) (s x : Operand)
    (ho : o.op = .call { callee := .builtin .append, args := #[s, x], argTypes := #[44, 44] }) (base : Nat)
    (v : Value) (xs : List Fld) (hs : a.eval s = v) (happ : OwnS rF 108 w base (fun _ => False) v xs)
    (f : Fld) (h1 : f.1.size ≤ 9223372036854775807) (h2 : fldI f) (h3 : f.2.2.2.size ≤ 9223372036854775807) (gb : Nat) (hx : a.eval x = .slice (some ⟨gb, 0, none⟩) 1 1)
    (hrow : w.heap[gb]? = some (.cells #[.string f.1, .bool f.2.1, .int .i64 f.2.2.1, .string f.2.2.2] 108 (0, 0))) (hl : xs.length ≤ 1000) (hbase : base ≤ w.heap.size)
    (h : ∀ v' w', OwnS rF 108 w' base (fun _ => False) v' (xs ++ [f]) → w.grownBy w' v.ownBlock → (∀ k, v'.ownBlock = some k → v.ownBlock = some k ∨ w.heap.size ≤ k) → K (a.put o.dst v') w') :
    if Region.wanted o (yielded ops a.tmps) = true then Oper.wp Try.prog o a w K Q else E := by
  have hw : Region.wanted o (yielded ops a.tmps) = true := by simp [Region.wanted, hgd]
  rw [if_pos hw]
  refine wp_appS rF s x 44 44 108 _ 48 ho Try.underlying44 infoFld rfl base _ v xs hs happ _ [([.string f.1, .bool f.2.1, .int .i64 f.2.2.1, .string f.2.2.2], f)] hx ?_ ?_ (fun _ h => h.elim) (by simp; omega) (by simp; omega) hbase ?_
  · refine src_row Try.underlying44 hrow (fun u hu => ?_) rfl
    simp only [cellsOf, List.flatMap_cons, List.flatMap_nil, List.append_nil, List.mem_cons, List.not_mem_nil, or_false] at hu
    rcases hu with rfl | rfl | rfl | rfl <;> rfl
  · intro p hp
    obtain rfl := List.mem_singleton.1 hp
    exact ⟨[_], _, rfl, ⟨rfl, h1⟩, [_], _, rfl, rfl, [_], _, rfl, ⟨rfl, h2⟩, ⟨rfl, h3⟩⟩
  · intro v' w' k1 k2 k3
    exact h v' w' k1 k2 k3
theorem wl_appEvt {w : World} {ops : Array Oper} {rest : List Oper} {o : Oper} {a : Act} {Q : Exit → Act → World → Prop} (hgd : o.guard = none) (s x : Operand)
    (ho : o.op = .call { callee := .builtin .append, args := #[s, x], argTypes := #[23, 23] }) (base : Nat) (S : Nat → Prop)
    (v : Value) (xs : List Ev) (hs : a.eval s = v) (happ : OwnS rE 46 w base S v xs)
    (e : Ev) (fv : Value) (h1 : e.1.size ≤ 9223372036854775807) (h2 : -9223372036854775808 ≤ e.2.1 ∧ e.2.1 ≤ 9223372036854775807) (h3 : RdS rF w S fv e.2.2) (hfv : fv.oneCell' = true) (gb : Nat) (hx : a.eval x = .slice (some ⟨gb, 0, none⟩) 1 1)
    (hrow : w.heap[gb]? = some (.cells #[.string e.1, .int .i64 e.2.1, fv] 46 (0, 0))) (hSlt : ∀ k, S k → k < w.heap.size) (hl : xs.length ≤ 1000) (hbase : base ≤ w.heap.size)
    (h : ∀ v' w', OwnS rE 46 w' base S v' (xs ++ [e]) → w.grownBy w' v.ownBlock → (∀ k, v'.ownBlock = some k → v.ownBlock = some k ∨ w.heap.size ≤ k) → wpList Try.prog ops Q rest (a.put o.dst v') w') : wpList Try.prog ops Q (o :: rest) a w := by
  refine wpList_plain hgd fun _ hK => wp_appS rE s x 23 23 46 _ 48 ho Try.underlying23 infoEvt rfl base S v xs hs happ _ [([.string e.1, .int .i64 e.2.1, fv], e)] hx ?_ ?_ hSlt (by simp; omega) (by simp; omega) hbase ?_
  · refine src_row Try.underlying23 hrow (fun u hu => ?_) rfl
    simp only [cellsOf, List.flatMap_cons, List.flatMap_nil, List.append_nil, List.mem_cons, List.not_mem_nil, or_false] at hu
    rcases hu with rfl | rfl | rfl
    · rfl
    · rfl
    · exact hfv
  · intro p hp
    obtain rfl := List.mem_singleton.1 hp
    exact ⟨[_], _, rfl, ⟨rfl, h1⟩, [_], _, rfl, ⟨rfl, h2⟩, h3⟩
  · intro v' w' k1 k2 k3
    exact hK _ _ (h v' w' k1 k2 k3)
end Go.Proofs.Ythobhkmphjnlaaa
