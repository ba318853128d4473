/- A run appended to a row of the call's own. -/
import Derived.Test.YtbpcgfplokkfpaaAlN
namespace Go.Proofs.Ytbpcgfplokkfpaa
open Go.RowKit
set_option linter.unusedVariables false
set_option linter.unusedSimpArgs false

theorem infoRun : (Try.prog.info? 43).map (fun i => (i.zero, i.size, i.bytes)) = some (some (.agg #[.int .i64 0, .int .i64 0]), 2, 16) := by kernel_rfl
theorem wp_appS {α : Type} (r : Rdr α) {w : World} {o : Oper} {a : Act} {K : Act → World → Prop} {Q : Exit → Act → World → Prop} (s x : Operand) (ts tx t : TypeId) (z : Value) (bytes : Nat)
    (ho : o.op = .call { callee := .builtin .append, args := #[s, x], argTypes := #[ts, tx] }) (hts : Try.prog.underlying ts = some (.slice t)) (hinfo : (Try.prog.info? t).map (fun i => (i.zero, i.size, i.bytes)) = some (some z, r.size, bytes)) (hzs : z.cells.size = r.size) (base : Nat) (S : Nat → Prop)
    (v : Value) (xs : List α) (hs : a.eval s = v) (happ : OwnS r t w base S v xs)
    (y : Value) (gs : List (List Value × α)) (hx : a.eval x = y) (hsrc : Src Try.prog r.size tx y gs.length (cellsOf gs) w) (hgs : ∀ p ∈ gs, r.rd w S p.1 p.2) (hSlt : ∀ k, S k → k < w.heap.size)
    (hbytes : (xs.length + gs.length) * bytes ≤ 140737488355328) (h63 : xs.length + gs.length ≤ 9223372036854775807) (hbase : base ≤ w.heap.size)
    (h : ∀ v' w', OwnS r t w' base S v' (xs ++ gs.map (·.2)) → w.grownBy w' v.ownBlock → (∀ k, v'.ownBlock = some k → v.ownBlock = some k ∨ w.heap.size ≤ k) → K (a.put o.dst v') w') : o.wp Try.prog a w K Q := by
  obtain ⟨i0, hi, hz0, hz1, hz2⟩ := info_parts hinfo
  obtain ⟨hs0, rfl, g2, gS, g3⟩ := happ
  rw [List.length_map] at hbytes h63
  refine wp_append_app s x ts tx ho base t i0 z r.size bytes hts hi hz0 hz1 hz2 hzs v hs0.length (cellsOf hs0) hs (.inl g2) (fun u hu => by obtain ⟨p, hp, hu⟩ := List.mem_flatMap.1 hu; exact r.one (g3 p hp) u hu) y gs.length (cellsOf gs) hx hsrc h63 hbytes hbase ?_
  intro v' w' h1 h2 h3 h4 h5 h6
  refine h v' w' ⟨hs0 ++ gs, by simp, ?_, fun k hk hSk => ?_, fun p hp => ?_⟩ h4 h6
  · rw [List.length_append, show cellsOf (hs0 ++ gs) = cellsOf hs0 ++ cellsOf gs from by simp [cellsOf]]
    exact h3 g2
  · rcases h6 k hk with hh | hh
    · exact gS k hh hSk
    · have := hSlt k hSk; omega
  · have all : r.rd w S p.1 p.2 := by
      rcases List.mem_append.1 hp with hp | hp
      · exact g3 p hp
      · exact hgs p hp
    exact r.keep all h4.size (fun k hk hl => h4.block k hl (fun e => gS k e.symm hk)) fun _ h _ => h
theorem src_row {w : World} {gb : Nat} {cs : List Value} {t ts : TypeId} {size : Nat} (hts : Try.prog.underlying ts = some (.slice t)) (hrow : w.heap[gb]? = some (.cells cs.toArray t (0, 0))) (h1 : ∀ u ∈ cs, u.oneCell' = true) (hl : cs.length = 1 * size) : Src Try.prog size ts (.slice (some ⟨gb, 0, none⟩) 1 1) 1 cs w := by
  refine Src.ofSlice _ hts ⟨gb, 0, none⟩ 1 1 cs hl (fun j u hu => ?_) h1
  rw [show (⟨gb, 0, none⟩ : Addr).add j = ⟨gb, j, none⟩ from by unfold Addr.add; split <;> simp_all, cell_of_row _ _ _ _ _ _ hrow]
  simpa using hu
theorem step_appRun {w : World} {ops : Array Oper} {o : Oper} {a : Act} {K : Act → World → Prop} {Q : Exit → Act → World → Prop} {E : Prop} (hgd : o.guard = none) (s x : Operand)
    (ho : o.op = .call { callee := .builtin .append, args := #[s, x], argTypes := #[37, 37] }) (base : Nat)
    (v : Value) (xs : List (Int × Int)) (hs : a.eval s = v) (happ : OwnS rRn 43 w base (fun _ => False) v xs)
    (e : Int × Int) (h0 : -9223372036854775808 ≤ e.1 ∧ e.1 ≤ 9223372036854775807) (h1 : -9223372036854775808 ≤ e.2 ∧ e.2 ≤ 9223372036854775807) (gb : Nat) (hx : a.eval x = .slice (some ⟨gb, 0, none⟩) 1 1)
    (hrow : w.heap[gb]? = some (.cells #[.int .i64 e.1, .int .i64 e.2] 43 (0, 0))) (hl : xs.length ≤ 1000000) (hbase : base ≤ w.heap.size)
    (h : ∀ v' w', OwnS rRn 43 w' base (fun _ => False) v' (xs ++ [e]) → w.grownBy w' v.ownBlock → (∀ k, v'.ownBlock = some k → v.ownBlock = some k ∨ w.heap.size ≤ k) → K (a.put o.dst v') w') :
    if Region.wanted o (yielded ops a.tmps) = true then Oper.wp Try.prog o a w K Q else E := by
  have hw : Region.wanted o (yielded ops a.tmps) = true := by simp [Region.wanted, hgd]
  rw [if_pos hw]
  refine wp_appS rRn s x 37 37 43 _ 16 ho Try.underlying37 infoRun rfl base _ v xs hs happ _ [([.int .i64 e.1, .int .i64 e.2], e)] hx ?_ ?_ (fun _ h => h.elim) (by simp; omega) (by simp; omega) hbase ?_
  · refine src_row Try.underlying37 hrow (fun u hu => ?_) rfl
    simp only [cellsOf, List.flatMap_cons, List.flatMap_nil, List.append_nil, List.mem_cons, List.not_mem_nil, or_false] at hu
    rcases hu with rfl | rfl <;> rfl
  · intro p hp
    obtain rfl := List.mem_singleton.1 hp
    exact ⟨[_], _, rfl, ⟨rfl, h0⟩, rfl, h1⟩
  · intro v' w' k1 k2 k3
    exact h v' w' k1 k2 k3
end Go.Proofs.Ytbpcgfplokkfpaa
