/- cartularyref02.Device: begin, SetFuse, New, Read, Put, Flush. -/
import Derived.Test.YtgbiffpnfpdcoaaBdM

/- cartularyref02.Device: how it lies in memory; begin, SetFuse. -/
namespace Go.Proofs.Ytgbiffpnfpdcoaa
open Go.RowKit Go.Maps
set_option linter.unusedVariables false
set_option linter.unusedSimpArgs false

/-- a block, as a string -/
def bS' (b : Bk) : ByteArray := ⟨b.toArray⟩
def rSB : Rdr Bk where
  size := 1
  rd _ _ cs b := cs = [.string (bS' b)]
  len h := by rw [h]; rfl
  one h u hu := by rw [h] at hu; obtain rfl := List.mem_singleton.1 hu; rfl
  keep h _ _ _ := h
/-- a write that is pending -/
def rWS : Rdr (Int × Bk) where
  size := 2
  rd _ _ cs p := cs = [.int .i64 p.1, .string (bS' p.2)]
  len h := by rw [h]; rfl
  one h u hu := by
    rw [h] at hu
    rcases List.mem_cons.1 hu with rfl | hu
    · rfl
    · obtain rfl := List.mem_singleton.1 hu; rfl
  keep h _ _ _ := h
theorem rWS_size : rWS.size = 2 := rfl
/-- those to a block -/
def selP (P : List (Int × Bk)) (n : Int) : List Bk := (P.filter (fun p => decide (p.1 = n))).map (·.2)
theorem selP_snoc (P : List (Int × Bk)) (p : Int × Bk) (n : Int) : selP (P ++ [p]) n = if n = p.1 then selP P n ++ [p.2] else selP P n := by
  unfold selP
  rw [List.filter_append, List.map_append]
  by_cases h : n = p.1
  · rw [if_pos h]
    subst h; simp
  · rw [if_neg h]
    have : ¬ p.1 = n := fun e => h e.symm
    simp [this]
/-- the document's device at block g, standing as d; P: what is pending, in order -/
structure RAt (w : World) (B M g : Nat) (sv pv : Value) (rf : Int) (d : Dv) (P : List (Int × Bk)) : Prop where
  row : w.heap[g]? = some (.cells #[sv, pv, .int .i64 rf, .bool d.down, .int .i64 d.ops] 65 (0, 0))
  low : B ≤ g
  safe : OwnS rSB 9 w B (fun _ => False) sv d.safe
  pend : OwnS rWS 112 w B (fun _ => False) pv P
  sg : ∀ k, sv.ownBlock = some k → k ≠ g
  pg : ∀ k, pv.ownBlock = some k → k ≠ g ∧ sv.ownBlock ≠ some k
  rel : ∀ n, d.pend n = selP P n
  rng : ∀ p ∈ P, (0 ≤ p.1 ∧ p.1 < d.safe.length) ∧ p.2.length = 512
  size : 64 ≤ d.safe.length ∧ d.safe.length ≤ 512
  long : ∀ b ∈ d.safe, b.length = 512
  fuse : max rf (-1) = d.fuse
  fb : -9223372036854775808 ≤ rf ∧ rf ≤ 9223372036854775807
  ops : 0 ≤ d.ops ∧ d.ops ≤ M
  many : P.length ≤ M
/-- its blocks -/
def RBl (g : Nat) (sv pv : Value) (k : Nat) : Prop := k = g ∨ sv.ownBlock = some k ∨ pv.ownBlock = some k
section
variable {w w' : World} {B M M' g : Nat} {sv pv : Value} {rf : Int} {d : Dv} {P : List (Int × Bk)}
theorem RAt.glt (h : RAt w B M g sv pv rf d P) : g < w.heap.size := (Array.getElem?_eq_some_iff.1 h.row).1
theorem RAt.lt (h : RAt w B M g sv pv rf d P) {k : Nat} (hk : RBl g sv pv k) : B ≤ k ∧ k < w.heap.size := by
  rcases hk with rfl | hk | hk
  · exact ⟨h.low, h.glt⟩
  · exact h.safe.lt k hk
  · exact h.pend.lt k hk
theorem RAt.kept (h : RAt w B M g sv pv rf d P) (hk : Keep (RBl g sv pv) w w') : RAt w' B M g sv pv rf d P :=
  { h with
    row := (hk.block g (.inl rfl) h.glt).trans h.row
    safe := h.safe.kept (hk.mono fun k hk _ => by rcases hk with hk | hk; exact hk.elim; exact .inr (.inl hk))
    pend := h.pend.kept (hk.mono fun k hk _ => by rcases hk with hk | hk; exact hk.elim; exact .inr (.inr hk)) }
theorem RAt.ext (h : RAt w B M g sv pv rf d P) (hx : Ext w w') : RAt w' B M g sv pv rf d P := h.kept (hx.keep _)
theorem RAt.mono (h : RAt w B M g sv pv rf d P) (hm : M ≤ M') : RAt w B M' g sv pv rf d P :=
  { h with ops := ⟨h.ops.1, by have := h.ops.2; omega⟩, many := Nat.le_trans h.many hm }
theorem RAt.c0 (h : RAt w B M g sv pv rf d P) : w.cell? ⟨g, 0, none⟩ = some sv := (cell_of_row _ _ _ _ _ _ h.row).trans rfl
theorem RAt.c1 (h : RAt w B M g sv pv rf d P) : w.cell? ⟨g, 1, none⟩ = some pv := (cell_of_row _ _ _ _ _ _ h.row).trans rfl
theorem RAt.c2 (h : RAt w B M g sv pv rf d P) : w.cell? ⟨g, 2, none⟩ = some (.int .i64 rf) := (cell_of_row _ _ _ _ _ _ h.row).trans rfl
theorem RAt.c3 (h : RAt w B M g sv pv rf d P) : w.cell? ⟨g, 3, none⟩ = some (.bool d.down) := (cell_of_row _ _ _ _ _ _ h.row).trans rfl
theorem RAt.c4 (h : RAt w B M g sv pv rf d P) : w.cell? ⟨g, 4, none⟩ = some (.int .i64 d.ops) := (cell_of_row _ _ _ _ _ _ h.row).trans rfl
/-- its head alone has turned -/
theorem RAt.head (h : RAt w B M g sv pv rf d P) (hk : Keep (fun k => k ≠ g) w w') {rf' : Int} {d' : Dv} (hrow : w'.heap[g]? = some (.cells #[sv, pv, .int .i64 rf', .bool d'.down, .int .i64 d'.ops] 65 (0, 0)))
    (hs : d'.safe = d.safe) (hp : d'.pend = d.pend) (hf : max rf' (-1) = d'.fuse) (hfb : -9223372036854775808 ≤ rf' ∧ rf' ≤ 9223372036854775807) (ho : 0 ≤ d'.ops ∧ d'.ops ≤ M') (hm : M ≤ M') : RAt w' B M' g sv pv rf' d' P :=
  { row := hrow
    low := h.low
    safe := by
      rw [hs]
      exact h.safe.kept (hk.mono fun k hk _ => by rcases hk with hk | hk; exact hk.elim; exact h.sg k hk)
    pend := h.pend.kept (hk.mono fun k hk _ => by rcases hk with hk | hk; exact hk.elim; exact (h.pg k hk).1)
    sg := h.sg
    pg := h.pg
    rel := fun n => by rw [hp]; exact h.rel n
    rng := by rw [hs]; exact h.rng
    size := by rw [hs]; exact h.size
    long := by rw [hs]; exact h.long
    fuse := hf
    fb := hfb
    ops := ho
    many := Nat.le_trans h.many hm }
end

set_option maxRecDepth 100000 in
set_option maxHeartbeats 2000000 in
theorem begin_any {w : World} {B M g : Nat} {sv pv : Value} {rf : Int} {d : Dv} {P : List (Int × Bk)} (h : RAt w B M g sv pv rf d P) (hM : M ≤ 1000000000) (n : Int) (hn : -9223372036854775808 ≤ n ∧ n ≤ 9223372036854775807) (long : Bool) :
    Calls Try.prog 87 #[.pointer (some ⟨g, 0, none⟩), .int .i64 n, .bool long] w fun e w' =>
      e = .returned (.int .i64 (opF d n (if long = true then 21 else 0)).1) ∧ (∃ rf', RAt w' B (M + 1) g sv pv rf' (opF d n (if long = true then 21 else 0)).2 P) ∧ Keep (fun k => k ≠ g) w w' := by
  obtain ⟨sf, pd, fu, dn, op⟩ := d
  obtain ⟨sa, sc, rfl⟩ := h.safe.slice
  have c0 := h.c0
  have c2 := h.c2
  have c3 := h.c3
  have c4 := h.c4
  have f2 := blk_fro h.row 2
  have f3 := blk_fro h.row 3
  have f4 := blk_fro h.row 4
  have hfu := h.fuse
  obtain ⟨hf1, hf2⟩ := h.fb
  obtain ⟨ho1, ho2⟩ := h.ops
  obtain ⟨hs1, hs2⟩ := h.size
  obtain ⟨hn1, hn2⟩ := hn
  have H := hid h
  dsimp only at c0 c2 c3 c4 hfu ho1 ho2 hs1 hs2
  have HS := hid (show ∃ rf', RAt w B (M + 1) g (.slice sa sf.length sc) pv rf' ⟨sf, pd, fu, dn, op⟩ P from ⟨rf, h.mono (Nat.le_succ M)⟩)
  clear h
  obtain ⟨wg, hwg⟩ : ∃ wg : Int, wg = if long = true then 21 else 0 := ⟨_, rfl⟩
  rw [← hwg]
  cases dn
  · by_cases h1 : n < 0 ∨ (sf.length : Int) ≤ n
    · have hop := hid (show opF ⟨sf, pd, fu, false, op⟩ n wg = (20, ⟨sf, pd, fu, false, op⟩) by unfold opF; rw [if_neg (by simp), if_pos h1])
      clear hwg
      by_cases h2 : n < 0
      all_goals
        try have h3 : (sf.length : Int) ≤ n := by omega
        clear h1
        go_enter Try.func87, Try.ntmps87
        go_wp2_with fail
        go_ret
        exact ⟨by rw [hop.out]; rfl, by rw [hop.out]; exact HS.out, Keep.refl _ _⟩
    · have h2 : ¬ n < 0 := fun e => h1 (.inl e)
      have h3 : ¬ (sf.length : Int) ≤ n := fun e => h1 (.inr e)
      cases long
      · obtain rfl : wg = 0 := hwg
        by_cases h5 : rf = 0
        · subst h5
          obtain rfl : fu = 0 := by omega
          have hop := hid (show opF ⟨sf, pd, 0, false, op⟩ n 0 = (2, ⟨sf, pd, 0, true, op⟩) by unfold opF; rw [if_neg (by simp), if_neg h1, if_neg (by simp), if_pos rfl])
          clear h1
          go_enter Try.func87, Try.ntmps87
          go_wp2_with fail
          go_ret
          refine ⟨by rw [hop.out]; rfl, ?_, (Keep.refl _ _).setCell (by simp) _⟩
          rw [hop.out]
          exact ⟨0, H.out.head ((Keep.refl _ _).setCell (by simp) _) ((blk_set (o := 3) H.out.row (.bool true)).trans rfl) rfl rfl (by dsimp only; omega) (by omega) ⟨ho1, by dsimp only; omega⟩ (Nat.le_succ M)⟩
        · have hfn : ¬ fu = 0 := by omega
          have hop := hid (show opF ⟨sf, pd, fu, false, op⟩ n 0 = (0, ⟨sf, pd, if 0 < fu then fu - 1 else fu, false, op + 1⟩) by unfold opF; rw [if_neg (by simp), if_neg h1, if_neg (by simp), if_neg hfn])
          have ho3 : IntKind.i64.wrap (op + 1) = op + 1 := by rw [IntKind.wrap_i64]; omega
          clear h1
          by_cases h6 : 0 < rf
          · have hfw : IntKind.i64.wrap (rf - 1) = rf - 1 := by rw [IntKind.wrap_i64]; omega
            have e6 := hid (show (if 0 < fu then fu - 1 else fu) = fu - 1 from if_pos (by omega))
            have HFU := hid hfu
            clear hfu
            go_enter Try.func87, Try.ntmps87
            go_wp2_with fail
            go_ret
            refine ⟨by rw [hop.out]; rfl, ?_, ((Keep.refl _ _).setCell (by simp) _).setCell (by simp) _⟩
            rw [hop.out, e6.out]
            have hfu := HFU.out
            exact ⟨rf - 1, H.out.head (((Keep.refl _ _).setCell (by simp) _).setCell (by simp) _) ((blk_set (o := 4) ((blk_set (o := 2) H.out.row (.int .i64 (rf - 1))).trans rfl) (.int .i64 (op + 1))).trans rfl) rfl rfl (by dsimp only; omega) (by omega) ⟨by dsimp only; omega, by dsimp only; omega⟩ (Nat.le_succ M)⟩
          · have e6 := hid (show (if 0 < fu then fu - 1 else fu) = fu from if_neg (by omega))
            have HFU := hid hfu
            clear hfu
            go_enter Try.func87, Try.ntmps87
            go_wp2_with fail
            go_ret
            refine ⟨by rw [hop.out]; rfl, ?_, (Keep.refl _ _).setCell (by simp) _⟩
            rw [hop.out, e6.out]
            have hfu := HFU.out
            exact ⟨rf, H.out.head ((Keep.refl _ _).setCell (by simp) _) ((blk_set (o := 4) H.out.row (.int .i64 (op + 1))).trans rfl) rfl rfl (by dsimp only; omega) (by omega) ⟨by dsimp only; omega, by dsimp only; omega⟩ (Nat.le_succ M)⟩
      · obtain rfl : wg = 21 := hwg
        have hop := hid (show opF ⟨sf, pd, fu, false, op⟩ n 21 = (21, ⟨sf, pd, fu, false, op⟩) by unfold opF; rw [if_neg (by simp), if_neg h1, if_pos (by decide)])
        clear h1
        go_enter Try.func87, Try.ntmps87
        go_wp2_with fail
        go_ret
        exact ⟨by rw [hop.out]; rfl, by rw [hop.out]; exact HS.out, Keep.refl _ _⟩
  · have hop := hid (show opF ⟨sf, pd, fu, true, op⟩ n wg = (2, ⟨sf, pd, fu, true, op⟩) by unfold opF; rw [if_pos rfl])
    clear hwg
    go_enter Try.func87, Try.ntmps87
    go_wp2_with fail
    go_ret
    exact ⟨by rw [hop.out]; rfl, by rw [hop.out]; exact HS.out, Keep.refl _ _⟩

set_option maxRecDepth 100000 in
theorem SetFuse_any {w : World} {B M g : Nat} {sv pv : Value} {rf : Int} {d : Dv} {P : List (Int × Bk)} (h : RAt w B M g sv pv rf d P) (k : Int) (hk : -9223372036854775808 ≤ k ∧ k ≤ 9223372036854775807) :
    Calls Try.prog 63 #[.pointer (some ⟨g, 0, none⟩), .int .i64 k] w fun e w' =>
      e = .returned (.int .i64 (fuseF d k).1) ∧ (∃ rf', RAt w' B M g sv pv rf' (fuseF d k).2 P) ∧ Keep (fun j => j ≠ g) w w' := by
  obtain ⟨sf, pd, fu, dn, op⟩ := d
  have c3 := h.c3
  have c2 := h.c2
  have f2 := blk_fro h.row 2
  have H := hid h
  have HK := hid hk
  clear h hk
  dsimp only at c3
  cases dn
  · have hop := hid (show fuseF ⟨sf, pd, fu, false, op⟩ k = (0, ⟨sf, pd, max k (-1), false, op⟩) by unfold fuseF; rw [if_neg (by simp)])
    go_enter Try.func63, Try.ntmps63
    go_wp2_with fail
    go_ret
    refine ⟨by rw [hop.out]; rfl, ?_, (Keep.refl _ _).setCell (by simp) _⟩
    rw [hop.out]
    exact ⟨k, H.out.head ((Keep.refl _ _).setCell (by simp) _) ((blk_set (o := 2) H.out.row (.int .i64 k)).trans rfl) rfl rfl rfl HK.out H.out.ops (Nat.le_refl M)⟩
  · have hop := hid (show fuseF ⟨sf, pd, fu, true, op⟩ k = (2, ⟨sf, pd, fu, true, op⟩) by unfold fuseF; rw [if_pos rfl])
    go_enter Try.func63, Try.ntmps63
    go_wp2_with fail
    go_ret
    exact ⟨by rw [hop.out]; rfl, by rw [hop.out]; exact ⟨rf, H.out⟩, Keep.refl _ _⟩
end Go.Proofs.Ytgbiffpnfpdcoaa

/- cartularyref02.Device: New, Read, Put. -/
namespace Go.Proofs.Ytgbiffpnfpdcoaa
open Go.RowKit Go.Maps
set_option linter.unusedVariables false
set_option linter.unusedSimpArgs false

/-- append of one element, in a region that draws -/
theorem step_app1 {α : Type} (r : Rdr α) {w : World} {ops : Array Oper} {o : Oper} {a : Act} {K : Act → World → Prop} {Q : Exit → Act → World → Prop} {E : Prop} (hgd : o.guard = none) (s x : Operand) (tl te : TypeId) (z : Value) (bytes : Nat)
    (ho : o.op = .call { callee := .builtin .append, args := #[s, x], argTypes := #[tl, tl] }) (hts : Try.prog.underlying tl = some (.slice te)) (hinfo : (Try.prog.info? te).map (fun i => (i.zero, i.size, i.bytes)) = some (some z, r.size, bytes)) (hzs : z.cells.size = r.size)
    (B : Nat) (hB : B ≤ w.heap.size) (v : Value) (xs : List α) (hs : a.eval s = v) (happ : OwnS r te w B (fun _ => False) v xs)
    (cs : List Value) (y : α) (hrd : r.rd w (fun _ => False) cs y) (gb : Nat) (hx : a.eval x = .slice (some ⟨gb, 0, none⟩) 1 1) (hrow : w.heap[gb]? = some (.cells cs.toArray te (0, 0))) (hb : bytes ≤ 1000) (hl : xs.length ≤ 1000000000)
    (h : ∀ v' w', OwnS r te w' B (fun _ => False) v' (xs ++ [y]) → w.grownBy w' v.ownBlock → (∀ k, v'.ownBlock = some k → v.ownBlock = some k ∨ w.heap.size ≤ k) → K (a.put o.dst v') w') :
    if Region.wanted o (yielded ops a.tmps) = true then Oper.wp Try.prog o a w K Q else E := by
  have hw : Region.wanted o (yielded ops a.tmps) = true := by simp [Region.wanted, hgd]
  rw [if_pos hw]
  have hm : (xs.length + 1) * bytes ≤ 1000000001 * 1000 := Nat.mul_le_mul (by omega) hb
  refine wp_appS r s x tl tl te z bytes ho hts hinfo hzs B (fun _ => False) v xs hs happ _ [(cs, y)] hx ?_ ?_ (fun _ h => h.elim) (by simp; omega) (by simp; omega) hB ?_
  · have := src_row hts hrow (r.one hrd) (by rw [r.len hrd, Nat.one_mul])
    simpa [cellsOf] using this
  · intro p hp
    obtain rfl := List.mem_singleton.1 hp
    exact hrd
  · intro v' w' k1 k2 k3
    exact h v' w' k1 k2 k3
theorem infoS1 : (Try.prog.info? 9).map (fun i => (i.zero, i.size, i.bytes)) = some (some (.string ⟨#[]⟩), rSB.size, 16) := by kernel_rfl
theorem infoW1 : (Try.prog.info? 112).map (fun i => (i.zero, i.size, i.bytes)) = some (some (.agg #[.int .i64 0, .string ⟨#[]⟩]), rWS.size, 24) := by kernel_rfl

set_option maxRecDepth 100000 in
theorem RNew_err (w : World) (n : Int) (hn : n < 64 ∨ 512 < n) :
    Calls Try.prog 38 #[.int .i64 n] w fun e w' => e = .returned (.tuple #[.pointer none, .int .i64 21]) ∧ w = w' := by
  by_cases h1 : n < 64
  all_goals
    try have h2 : (512 : Int) < n := by omega
    go_enter Try.func38, Try.ntmps38
    go_wp2_with fail
    refine bodyPost_ret (v := .tuple #[.pointer none, .int .i64 21]) (by simp [results, Try.results38, go_sem]) rfl ?_
    exact ⟨rfl, rfl⟩

set_option maxRecDepth 100000 in
set_option maxHeartbeats 2000000 in
theorem RNew_ok (w : World) (n : Nat) (h1 : 64 ≤ n) (h2 : n ≤ 512) :
    Calls Try.prog 38 #[.int .i64 n] w fun e w' => ∃ g sv, e = .returned (.tuple #[.pointer (some ⟨g, 0, none⟩), .int .i64 0]) ∧ RAt w' w.heap.size 0 g sv (.slice none 0 0) (-1) (dv0 n) [] ∧ Ext w w' := by
  have t1 : ¬ (n : Int) < 64 := by omega
  have t2 : ¬ (512 : Int) < n := by omega
  go_enter Try.func38, Try.ntmps38
  go_wp2_with fail
  go_loopw [5] (fun u5 wr => ∃ (i : Nat) (sv : Value), u5 = .int .i64 i ∧ i ≤ n ∧ wr.heap[w.heap.size]? = some (.cells #[sv, .slice none 0 0, .int .i64 (-1), .bool false, .int .i64 0] 65 (0, 0)) ∧ OwnS rSB 9 wr w.heap.size (fun _ => False) sv (List.replicate i zb) ∧ (∀ k, sv.ownBlock = some k → k ≠ w.heap.size) ∧ Ext w wr) (fun u5 _ => n - (intOf u5).toNat)
  case atStart => exact ⟨0, .slice none 0 0, rfl, Nat.zero_le _, heap_alloc_new _ _, OwnS.nil _ _ _ _ _, fun k hk => by simp [Value.ownBlock] at hk, (Ext.refl _).alloc _⟩
  case round =>
    obtain ⟨i, sv, rfl, hi, hrow, hown, hne, hx⟩ := hrel
    have HROW := hid hrow
    have HOWN := hid hown
    have HNE := hid hne
    have HX := hid hx
    obtain ⟨sa, sc, hsv⟩ := hown.slice
    rw [List.length_replicate] at hsv
    subst hsv
    have hgl : w.heap.size < wr.heap.size := (Array.getElem?_eq_some_iff.1 hrow).1
    have c0 := (cell_of_row _ _ 0 _ _ _ hrow).trans rfl
    clear hrow hown hne hx
    by_cases hlt : i < n
    · have i1 : (i : Int) < n := by omega
      have hw1 : IntKind.i64.wrap ((i : Int) + 1) = (i : Int) + 1 := by rw [IntKind.wrap_i64]; omega
      go_wp2_with fail
      have hxd : Ext wr wr.drew := by (· repeat (first | (with_reducible assumption) | exact Ext.refl _ | refine Ext.alloc ?_ _ | refine Ext.drew ?_ | refine Ext.drewN ?_ _ | (apply Ext.snart; (with_reducible assumption))))
      refine wp_region_L (fun w' => w'.cell? ⟨w.heap.size, 0, none⟩ = some (.slice sa i sc)) 10 (by kernel_rfl) (Ext.cellS hxd c0) (fun hS => ?_)
      (refine wpAnyL_take (i := 0) (v := ?_) rfl (by kernel_rfl) (by kernel_rfl) (by kernel_rfl) (by kernel_rfl) (fun _ _ _ h => h) (Or.inl ⟨by rfl, ?_⟩) (by assumption) ?_; rotate_left; ((intro wS hSw; (try dsimp only at hSw); (try simp only [List.getElem_toArray, List.getElem_cons_zero, List.getElem_cons_succ]); go_simp); (try with_reducible rfl)); (try simp only [Act.put, List.getElem_toArray, List.getElem_cons_zero, List.getElem_cons_succ, List.setIfInBounds_toArray, List.set_cons_zero, List.set_cons_succ]))
      (refine wpAnyL_take (i := 1) (v := ?_) rfl (by kernel_rfl) (by kernel_rfl) (by kernel_rfl) (by kernel_rfl) (fun _ _ _ h => h) (Or.inl ⟨by rfl, ?_⟩) (by assumption) ?_; rotate_left; ((intro wS hSw; (try dsimp only at hSw); (try simp only [List.getElem_toArray, List.getElem_cons_zero, List.getElem_cons_succ]); go_simp); (try with_reducible rfl)); (try simp only [Act.put, List.getElem_toArray, List.getElem_cons_zero, List.getElem_cons_succ, List.setIfInBounds_toArray, List.set_cons_zero, List.set_cons_succ]))
      (refine wpAnyL_take (i := 2) (v := ?_) rfl (by kernel_rfl) (by kernel_rfl) (by kernel_rfl) (by kernel_rfl) (fun _ _ _ h => h) (Or.inl ⟨by rfl, ?_⟩) (by assumption) ?_; rotate_left; ((intro wS hSw; (try dsimp only at hSw); (try simp only [List.getElem_toArray, List.getElem_cons_zero, List.getElem_cons_succ]); go_simp); (try with_reducible rfl)); (try simp only [Act.put, List.getElem_toArray, List.getElem_cons_zero, List.getElem_cons_succ, List.setIfInBounds_toArray, List.set_cons_zero, List.set_cons_succ]))
      (refine wpAnyL_take (i := 3) (v := ?_) rfl (by kernel_rfl) (by kernel_rfl) (by kernel_rfl) (by kernel_rfl) (fun _ _ _ h => h) (Or.inl ⟨by rfl, ?_⟩) (by assumption) ?_; rotate_left; ((intro wS hSw; (try dsimp only at hSw); (try simp only [List.getElem_toArray, List.getElem_cons_zero, List.getElem_cons_succ]); go_simp); (try with_reducible rfl)); (try simp only [Act.put, List.getElem_toArray, List.getElem_cons_zero, List.getElem_cons_succ, List.setIfInBounds_toArray, List.set_cons_zero, List.set_cons_succ]))
      (refine wpAnyL_take (i := 4) (v := ?_) rfl (by kernel_rfl) (by kernel_rfl) (by kernel_rfl) (by kernel_rfl) (fun _ _ _ h => h) (Or.inl ⟨by rfl, ?_⟩) (by assumption) ?_; rotate_left; ((intro wS hSw; (try dsimp only at hSw); (try simp only [List.getElem_toArray, List.getElem_cons_zero, List.getElem_cons_succ]); go_simp); (try with_reducible rfl)); (try simp only [Act.put, List.getElem_toArray, List.getElem_cons_zero, List.getElem_cons_succ, List.setIfInBounds_toArray, List.set_cons_zero, List.set_cons_succ]))
      (refine wpAnyL_one (i := 5) (by kernel_rfl) rfl (fun K hK => ?_))
      go_simp
      go_at_call 31
      refine (Noughts_any _).mono ?_
      rintro e w3 ⟨rfl, hx3⟩
      have hxb : Ext wr w3 := hxd.trans hx3
      (refine hK.out _ _ (fun _ => Ext.cellS hxb c0) (fun hS => ?_); clear hK K)
      have hS := hS (by decide)
      (refine wpAnyL_one (i := 6) (by kernel_rfl) rfl (fun K hK => ?_))
      go_simp
      have hxA : Ext wr (w3.alloc (.cells #[.string ⟨zb.toArray⟩] 9)) := by (· repeat (first | (with_reducible assumption) | exact Ext.refl _ | refine Ext.alloc ?_ _ | refine Ext.drew ?_ | refine Ext.drewN ?_ _ | (apply Ext.snart; (with_reducible assumption))))
      (refine hK.out _ _ (fun _ => Ext.cellS hxA c0) (fun hS => ?_); clear hK K)
      have hS := hS (by decide)
      (refine wpAnyL_one (i := 7) (by kernel_rfl) rfl (fun K hK => ?_))
      refine step_app1 rSB rfl _ _ _ _ _ 16 rfl Try.underlying42 infoS1 rfl w.heap.size (Nat.le_trans (Nat.le_of_lt hgl) hxA.size) (.slice sa i sc) (List.replicate i zb) rfl (HOWN.out.ext hxA) [.string (bS' zb)] zb rfl _ rfl (heap_alloc_new _ _) (by omega) (by simp; omega) ?_
      intro v6 w6 k1 k2 k3
      have hk6 : Keep (fun k => (Value.slice sa i sc).ownBlock ≠ some k) wr w6 := (hxA.keep _).trans ((keep_grown k2).mono fun k hk _ e => hk e.symm)
      have hr6 := (hk6.block w.heap.size (fun e => HNE.out _ e rfl) hgl).trans HROW.out
      have hb6 : ∀ k, v6.ownBlock = some k → k ≠ w.heap.size := fun k hk => by
        rcases k3 k hk with h | h
        · exact HNE.out k h
        · have := hxA.size; omega
      have hx6 : Ext w w6 := Keep.ext (((HX.out.keep (fun k => k < w.heap.size)).trans (hk6.mono fun k hk _ e => by have := (HOWN.out.lt k e).1; omega)).mono fun k _ hl => hl)
      have q0 := (cell_of_row _ _ 0 _ _ _ hr6).trans rfl
      have f0 := blk_fro hr6 0
      rw [← List.replicate_succ'] at k1
      obtain ⟨a6, c6, hv6⟩ := k1.slice
      rw [List.length_replicate] at hv6
      subst hv6
      have K1 := hid k1
      have HR6 := hid hr6
      have HB6 := hid hb6
      have HX6 := hid hx6
      clear k1 k2 k3 hk6 hr6 hb6 hx6
      (refine hK.out _ _ (fun _ => q0) (fun hS => ?_); clear hK K)
      have hS := hS (by decide)
      (refine wpAnyL_one (i := 8) (by kernel_rfl) rfl (fun K hK => ?_))
      go_simp
      (refine hK.out _ _ (fun _ => q0) (fun hS => ?_); clear hK K)
      have hS := hS (by decide)
      (refine wpAnyL_one (i := 9) (by kernel_rfl) rfl (fun K hK => ?_))
      go_simp
      (refine hK.out _ _ (fun _ => q0) (fun hS => ?_); clear hK K)
      clear hS
      (refine wpAnyL_one (i := 10) (by kernel_rfl) rfl (fun K hK => ?_))
      go_simp
      (refine hK.out _ _ (fun h => absurd rfl h) (fun _ => ?_); clear hK K; refine wpAnyL_done (by kernel_rfl) ?_ _)
      refine NoPanic.normal ?_
      clear q0 f0 hxA hxb hxd hx3
      go_wp2_with fail
      have hk7 : Keep (fun k => k ≠ w.heap.size) w6 (w6.setCell ⟨w.heap.size, 0, none⟩ (.slice a6 (i + 1) c6)) := (Keep.refl _ _).setCell (by simp) _
      refine ⟨⟨i + 1, _, rfl, by omega, (blk_set (o := 0) HR6.out _).trans rfl, K1.out.kept (hk7.mono fun k hk _ => ?_), HB6.out, Keep.ext (((HX6.out.keep (fun k => k < w.heap.size)).trans (hk7.mono fun k hk _ e => by omega)).mono fun k _ hl => hl)⟩, by simp only [intOf]; omega⟩
      rcases hk with hk | hk
      · exact hk.elim
      · exact HB6.out k hk
    · have hie : i = n := by omega
      subst hie
      have i1 : ¬ (i : Int) < (i : Int) := by omega
      go_wp2_with fail
      refine bodyPost_ret (v := .tuple #[.pointer (some ⟨w.heap.size, 0, none⟩), .int .i64 0]) (by simp [results, Try.results38, go_sem]) rfl ?_
      refine ⟨_, rfl, ⟨.slice sa i sc, ?_⟩, HX.out⟩
      exact { row := HROW.out, low := Nat.le_refl _, safe := HOWN.out, pend := OwnS.nil _ _ _ _ _, sg := HNE.out, pg := fun k hk => by simp [Value.ownBlock] at hk, rel := fun _ => rfl, rng := fun p hp => by simp at hp, size := by show 64 ≤ (List.replicate i zb).length ∧ (List.replicate i zb).length ≤ 512; rw [List.length_replicate]; exact ⟨h1, h2⟩, long := fun b hb => by rw [(List.mem_replicate.1 hb).2]; exact zb_len, fuse := rfl, fb := by decide, ops := ⟨Int.le_refl 0, Int.le_refl 0⟩, many := Nat.le_refl 0 }

theorem RdS.atSB {w : World} {S : Nat → Prop} {v : Value} {xs : List Bk} (h : RdS rSB w S v xs) (i : Nat) (hi : i < xs.length) :
    ∃ g o cap, v = .slice (some ⟨g, o, none⟩) xs.length cap ∧ g < w.heap.size ∧ S g ∧ w.cell? ⟨g, o + i, none⟩ = some (.string (bS' xs[i])) := by
  obtain ⟨g, o, cap, cs, rfl, hg, hS, _, hc, rfl⟩ := h.at i hi
  refine ⟨g, o, cap, rfl, hg, hS, ?_⟩
  have := hc 0 _ rfl; simpa [rSB] using this
theorem RdS.atWS {w : World} {S : Nat → Prop} {v : Value} {xs : List (Int × Bk)} (h : RdS rWS w S v xs) (i : Nat) (hi : i < xs.length) :
    ∃ g o cap, v = .slice (some ⟨g, o, none⟩) xs.length cap ∧ g < w.heap.size ∧ S g ∧ w.cell? ⟨g, o + i * 2, none⟩ = some (.int .i64 xs[i].1) ∧ w.cell? ⟨g, o + i * 2 + 1, none⟩ = some (.string (bS' xs[i].2)) := by
  obtain ⟨g, o, cap, cs, rfl, hg, hS, _, hc, rfl⟩ := h.at i hi
  refine ⟨g, o, cap, rfl, hg, hS, ?_, ?_⟩
  · have := hc 0 _ rfl; simpa [rWS_size] using this
  · have := hc 1 _ rfl; simpa [rWS_size, Nat.add_assoc] using this
/-- the last one to a block -/
def lastP (P : List (Int × Bk)) (n : Int) (s : Bk) : Bk := P.foldl (fun s p => if p.1 = n then p.2 else s) s
theorem lastP_snoc (P : List (Int × Bk)) (p : Int × Bk) (n : Int) (s : Bk) : lastP (P ++ [p]) n s = if p.1 = n then p.2 else lastP P n s := by
  unfold lastP; rw [List.foldl_append]; rfl
theorem lastP_sel (n : Int) : ∀ (P : List (Int × Bk)) (s : Bk), lastP P n s = ((selP P n).getLast?).getD s
  | [], s => rfl
  | p :: ps, s => by
    show lastP ps n (if p.1 = n then p.2 else s) = _
    rw [lastP_sel n ps]
    unfold selP
    by_cases h : p.1 = n
    · rw [if_pos h, List.filter_cons_of_pos (by simp [h]), List.map_cons]
      cases e : (List.map (fun x => x.2) (List.filter (fun p => decide (p.1 = n)) ps)) with
      | nil => rfl
      | cons a b => simp [List.getLast?_cons]
    · rw [if_neg h, List.filter_cons_of_neg (by simp [h])]
theorem opF_same' (d : Dv) (n e : Int) : (opF d n e).2.safe = d.safe ∧ (opF d n e).2.pend = d.pend := opF_same d n e

set_option maxRecDepth 100000 in
set_option maxHeartbeats 2000000 in
theorem RRead_any {w : World} {B M g : Nat} {sv pv : Value} {rf : Int} {d : Dv} {P : List (Int × Bk)} (h : RAt w B M g sv pv rf d P) (hM : M ≤ 1000000000) (n : Int) (hn : -9223372036854775808 ≤ n ∧ n ≤ 9223372036854775807) :
    Calls Try.prog 60 #[.pointer (some ⟨g, 0, none⟩), .int .i64 n] w fun e w' =>
      ((opF d n 0).1 ≠ 0 ∧ e = .returned (.tuple #[.string ⟨#[]⟩, .int .i64 (opF d n 0).1]) ∨ (opF d n 0).1 = 0 ∧ e = .returned (.tuple #[.string (bS' (curF d n)), .int .i64 0])) ∧ (∃ rf', RAt w' B (M + 1) g sv pv rf' (opF d n 0).2 P) ∧ Keep (fun k => k ≠ g) w w' := by
  have hcu : curF d n = lastP P n (d.safe.getD n.toNat zb) := by unfold curF; rw [h.rel, lastP_sel]
  have HCU := hid hcu
  have H := hid h
  have HN := hid hn
  obtain ⟨hsm1, hsm2⟩ := opF_same d n 0
  have hok := @opF_ok d n 0
  clear h hn hcu
  go_enter Try.func60, Try.ntmps60
  go_wp2_with fail
  refine (begin_any H.out hM n HN.out false).mono ?_
  rintro e w1 ⟨rfl, ⟨rf1, h1⟩, hk1⟩
  have e0 : (if false = true then (21 : Int) else 0) = 0 := rfl
  rw [e0] at h1 ⊢
  obtain ⟨X, hX⟩ : ∃ X, X = opF d n 0 := ⟨_, rfl⟩
  rw [← hX] at h1 hok hsm1 hsm2 ⊢
  obtain ⟨ec, d1⟩ := X
  dsimp only at h1 hok hsm1 hsm2
  have HE := hid hX
  clear hX
  have HK1 := hid hk1
  have H1 := hid h1
  clear hk1 e0
  by_cases hx : ec = 0
  · subst hx
    obtain ⟨-, hr1, hr2⟩ := hok rfl
    obtain ⟨nn, rfl⟩ : ∃ nn : Nat, n = nn := ⟨n.toNat, by omega⟩
    have hnl : nn < d1.safe.length := by rw [hsm1]; omega
    obtain ⟨gs, os, cs, hsv, -, -, d0⟩ := h1.safe.rd.atSB nn hnl
    subst hsv
    have c0 := h1.c0
    have c1 := h1.c1
    obtain ⟨pa, pc, hpv⟩ := h1.pend.slice
    subst hpv
    have hsd : d.safe.getD (nn : Int).toNat zb = d1.safe[nn] := by
      rw [← hsm1]; simp [hnl]
    rw [hsd] at HCU
    generalize d1.safe[nn] = sb at d0 HCU
    have i1 : (nn : Int) < (d1.safe.length : Int) := by omega
    have hml := h1.many
    clear h1 hsm1 hsm2 hok hsd
    go_wp2_with fail
    go_loopw [7, 8] (fun u7 u8 wr => ∃ i : Nat, u7 = .string (bS' (lastP (P.take i) nn sb)) ∧ u8 = .int .i64 i ∧ i ≤ P.length ∧ wr = w1) (fun _ u8 _ => P.length - (intOf u8).toNat)
    case atStart => exact ⟨0, rfl, rfl, Nat.zero_le _, rfl⟩
    case round =>
      obtain ⟨i, rfl, rfl, hi, rfl⟩ := hrel
      by_cases hlt : i < P.length
      · obtain ⟨gp, op, cp, e, -, -, q0, q1⟩ := H1.out.pend.rd.atWS i hlt
        simp only [Value.slice.injEq] at e
        obtain ⟨rfl, -, rfl⟩ := e
        have hst : lastP (P.take (i + 1)) nn sb = if P[i].1 = nn then P[i].2 else lastP (P.take i) nn sb := by
          rw [← List.take_append_getElem hlt, lastP_snoc]
        generalize P[i] = x at q0 q1 hst
        obtain ⟨xn, xb⟩ := x
        dsimp only at q0 q1 hst
        have HST := hid hst
        have i2 : (i : Int) < (P.length : Int) := by omega
        have hw1 : IntKind.i64.wrap ((i : Int) + 1) = (i : Int) + 1 := by rw [IntKind.wrap_i64]; omega
        clear hst
        by_cases hb : xn = nn
        · subst hb
          go_wp2_with fail
          exact ⟨⟨i + 1, by rw [HST.out, if_pos rfl], rfl, by omega, trivial⟩, by simp only [intOf]; omega⟩
        · go_wp2_with fail
          exact ⟨⟨i + 1, by rw [HST.out, if_neg hb], rfl, by omega, trivial⟩, by simp only [intOf]; omega⟩
      · have hie : i = P.length := by omega
        subst hie
        have i2 : ¬ (P.length : Int) < (P.length : Int) := by omega
        rw [List.take_length]
        go_wp2_with fail
        refine bodyPost_ret (v := .tuple #[.string (bS' (lastP P nn sb)), .int .i64 0]) (by simp [results, Try.results60, go_sem]) rfl ?_
        rw [← HE.out, HCU.out]
        exact ⟨.inr ⟨rfl, rfl⟩, ⟨rf1, H1.out⟩, HK1.out⟩
  · clear h1 hsm1 hsm2 hok
    go_wp2_with fail
    refine bodyPost_ret (v := .tuple #[.string ⟨#[]⟩, .int .i64 ec]) (by simp [results, Try.results60, go_sem]) rfl ?_
    rw [← HE.out]
    exact ⟨.inl ⟨hx, rfl⟩, ⟨rf1, H1.out⟩, HK1.out⟩
end Go.Proofs.Ytgbiffpnfpdcoaa

/- cartularyref02.Device: Put, Flush. -/
namespace Go.Proofs.Ytgbiffpnfpdcoaa
open Go.RowKit Go.Maps
set_option linter.unusedVariables false
set_option linter.unusedSimpArgs false

section
variable {w w' : World} {B M M' g : Nat} {sv pv : Value} {rf : Int} {d : Dv} {P : List (Int × Bk)}
/-- one more is pending -/
theorem RAt.put (h : RAt w B M g sv pv rf d P) {w6 : World} {v6 : Value} {n : Int} {data : Bk} (hk6 : Keep (fun k => pv.ownBlock ≠ some k) w w6) (ho : OwnS rWS 112 w6 B (fun _ => False) v6 (P ++ [(n, data)])) (hb : ∀ k, v6.ownBlock = some k → pv.ownBlock = some k ∨ w.heap.size ≤ k) (hn : 0 ≤ n ∧ n < d.safe.length) (hd : data.length = 512) :
    RAt (w6.setCell ⟨g, 1, none⟩ v6) B (M + 1) g sv v6 rf { d with pend := setP d.pend n (d.pend n ++ [data]) } (P ++ [(n, data)]) := by
  have hgl := h.glt
  have hg6 := (hk6.block g (fun e => (h.pg g e).1 rfl) hgl).trans h.row
  have hs : Keep (fun k => k ≠ g) w6 (w6.setCell ⟨g, 1, none⟩ v6) := (Keep.refl _ _).setCell (by simp) _
  have hv6 : ∀ k, v6.ownBlock = some k → k ≠ g ∧ sv.ownBlock ≠ some k := fun k hk => by
    rcases hb k hk with h1 | h1
    · exact h.pg k h1
    · exact ⟨by omega, fun e => by have := (h.safe.lt k e).2; omega⟩
  exact {
    row := (blk_set (o := 1) hg6 v6).trans rfl
    low := h.low
    safe := (h.safe.kept (hk6.mono fun k hk _ e => by
      rcases hk with hk | hk
      · exact hk.elim
      · exact (h.pg k e).2 hk)).kept (hs.mono fun k hk _ => by
      rcases hk with hk | hk
      · exact hk.elim
      · exact h.sg k hk)
    pend := ho.kept (hs.mono fun k hk _ => by
      rcases hk with hk | hk
      · exact hk.elim
      · exact (hv6 k hk).1)
    sg := h.sg
    pg := hv6
    rel := fun t => by
      rw [selP_snoc]
      show (if t = n then d.pend n ++ [data] else d.pend t) = if t = n then selP P t ++ [data] else selP P t
      by_cases e : t = n
      · subst e; rw [if_pos rfl, if_pos rfl, h.rel]
      · rw [if_neg e, if_neg e, h.rel]
    rng := fun p hp => by
      rcases List.mem_append.1 hp with hp | hp
      · exact h.rng p hp
      · obtain rfl := List.mem_singleton.1 hp; exact ⟨hn, hd⟩
    size := h.size
    long := h.long
    fuse := h.fuse
    fb := h.fb
    ops := ⟨h.ops.1, by have := h.ops.2; show d.ops ≤ ((M + 1 : Nat) : Int); omega⟩
    many := by rw [List.length_append, List.length_singleton]; have := h.many; omega }
/-- a block of its safe ones has been set -/
theorem RAt.setSafe {gs cap : Nat} (h : RAt w B M g (.slice (some ⟨gs, 0, none⟩) d.safe.length cap) pv rf d P) (i : Nat) (hi : i < d.safe.length) {b : Bk} (hb : b.length = 512) :
    RAt (w.setCell ⟨gs, i, none⟩ (.string (bS' b))) B M g (.slice (some ⟨gs, 0, none⟩) d.safe.length cap) pv rf { d with safe := d.safe.set i b } P := by
  have hs : Keep (fun k => k ≠ gs) w (w.setCell ⟨gs, i, none⟩ (.string (bS' b))) := (Keep.refl _ _).setCell (by simp) _
  have hgg : g ≠ gs := fun e => h.sg gs rfl e.symm
  have hlen : (d.safe.set i b).length = d.safe.length := List.length_set
  exact {
    row := (hs.block g hgg h.glt).trans h.row
    low := h.low
    safe := by
      obtain ⟨gl, e1, e2, e3, e4⟩ := h.safe
      have hgl : gl.length = d.safe.length := by rw [e1, List.length_map]
      have hc : ∀ l : List (List Value × Bk), (∀ p ∈ l, p.1 = [.string (bS' p.2)]) → cellsOf l = l.map fun p => .string (bS' p.2) := fun l => by
        induction l with
        | nil => intro _; rfl
        | cons p ps ih =>
          intro hp
          have h1 : cellsOf (p :: ps) = p.1 ++ cellsOf ps := by simp [cellsOf]
          rw [h1, hp p (by simp), ih fun q hq => hp q (by simp [hq])]; rfl
      refine ⟨gl.set i ([.string (bS' b)], b), ?_, ?_, fun _ _ hf => hf, fun p hp => ?_⟩
      · rw [List.map_set, ← e1]
      · rw [← hgl] at e2
        have h1 := (World.ownsRow.stored e2 i (.string (bS' b))).1
        have h2 : cellsOf (gl.set i ([.string (bS' b)], b)) = (cellsOf gl).set i (.string (bS' b)) := by
          rw [hc gl fun p hp => e4 p hp, hc (gl.set i ([.string (bS' b)], b)) fun p hp => by
            rcases List.mem_or_eq_of_mem_set hp with hp | hp
            · exact e4 p hp
            · rw [hp], List.map_set]
        rw [h2, List.length_set, ← hgl]
        exact h1
      · rcases List.mem_or_eq_of_mem_set hp with hp | hp
        · exact e4 p hp
        · rw [hp]; rfl
    pend := h.pend.kept (hs.mono fun k hk _ e => by
      rcases hk with hk | hk
      · exact hk.elim
      · exact (h.pg k hk).2 (by rw [e]; rfl))
    sg := h.sg
    pg := h.pg
    rel := h.rel
    rng := by show ∀ p ∈ P, (0 ≤ p.1 ∧ p.1 < (d.safe.set i b).length) ∧ _; rw [hlen]; exact h.rng
    size := by show 64 ≤ (d.safe.set i b).length ∧ (d.safe.set i b).length ≤ 512; rw [hlen]; exact h.size
    long := fun c hc => by
      rcases List.mem_or_eq_of_mem_set hc with hc | hc
      · exact h.long c hc
      · rw [hc]; exact hb
    fuse := h.fuse
    fb := h.fb
    ops := h.ops
    many := h.many }
end

set_option maxRecDepth 100000 in
set_option maxHeartbeats 2000000 in
theorem RPut_any {w : World} {B M g : Nat} {sv pv : Value} {rf : Int} {d : Dv} {P : List (Int × Bk)} (h : RAt w B M g sv pv rf d P) (hM : M ≤ 1000000) (n : Int) (hn : -9223372036854775808 ≤ n ∧ n ≤ 9223372036854775807) (v : Value) (data : List UInt8) (hv : RdB w v data) (hvb : ∀ k, v.ownBlock = some k → ¬ RBl g sv pv k) :
    Calls Try.prog 61 #[.pointer (some ⟨g, 0, none⟩), .int .i64 n, v] w fun e w' =>
      e = .returned (.int .i64 (writeF d n data).1) ∧ (∃ pv' rf' P', RAt w' B (M + 2) g sv pv' rf' (writeF d n data).2 P' ∧ ∀ k, pv'.ownBlock = some k → pv.ownBlock = some k ∨ w.heap.size ≤ k) ∧ Keep (fun k => ¬ RBl g sv pv k) w w' := by
  obtain ⟨va, vc, rfl, -⟩ := id hv
  have H := hid h
  have HN := hid hn
  have HV := hid hv
  have HVB := hid hvb
  have hng : ∀ k, (Value.slice va data.length vc).ownBlock = some k → k ≠ g := fun k hk e => hvb k hk (.inl e)
  have HNG := hid hng
  clear h hn hv hvb hng
  by_cases hd : data.length = 512
  · have hop : writeF d n data = if (opF d n 0).1 = 0 then (0, { (opF d n 0).2 with pend := setP d.pend n (d.pend n ++ [data]) }) else opF d n 0 := by unfold writeF; rw [if_pos hd]
    have HOP := hid hop
    have t1 : ((data.length : Int) != 512) = false := by rw [hd]; rfl
    have HD := hid hd
    clear hop hd
    go_enter Try.func61, Try.ntmps61
    go_wp2_with fail
    refine (begin_any H.out (by omega) n HN.out false).mono ?_
    rintro e w1 ⟨rfl, ⟨rf1, h1⟩, hk1⟩
    have e0 : (if false = true then (21 : Int) else 0) = 0 := rfl
    obtain ⟨hsm1, hsm2⟩ := opF_same d n 0
    have hok := @opF_ok d n 0
    rw [e0] at h1 ⊢
    obtain ⟨X, hX⟩ : ∃ X, X = opF d n 0 := ⟨_, rfl⟩
    rw [← hX] at h1 hok hsm1 hsm2 ⊢
    obtain ⟨ec, d1⟩ := X
    dsimp only at h1 hok hsm1 hsm2
    have HE := hid hX
    have HK1 := hid hk1
    have H1 := hid h1
    have hv1 : RdB w1 (.slice va data.length vc) data := Rd.carry HV.out hk1.size fun k hk hl => hk1.block k (HNG.out k hk) hl
    have hz1 := hk1.size
    clear hX hk1 e0
    by_cases hx : ec = 0
    · subst hx
      obtain ⟨-, hr1, hr2⟩ := hok rfl
      have HR := hid (show 0 ≤ n ∧ n < d1.safe.length by rw [hsm1]; exact ⟨hr1, hr2⟩)
      have HSM := hid hsm2
      have c1 := h1.c1
      obtain ⟨pa, pc, hpv⟩ := h1.pend.slice
      subst hpv
      have hml := h1.many
      have hlow := h1.low
      have hgl := h1.glt
      have HV1 := hid hv1
      clear h1 hok hsm1 hsm2 hr1 hr2 hv1
      go_wp2_with fail
      have hxd : Ext w1 w1.drew := by (· repeat (first | (with_reducible assumption) | exact Ext.refl _ | refine Ext.alloc ?_ _ | refine Ext.drew ?_ | refine Ext.drewN ?_ _ | (apply Ext.snart; (with_reducible assumption))))
      refine wp_region_L (fun w' => w'.cell? ⟨g, 1, none⟩ = some (.slice pa P.length pc) ∧ (convert 22 9 (.slice va data.length vc)).run Try.prog w' = .ok (.string ⟨data.toArray⟩) w') 13 (by kernel_rfl) ⟨Ext.cellS hxd c1, run_strB (HV1.out.ext hxd)⟩ (fun hS => ?_)
      (refine wpAnyL_take (i := 0) (v := ?_) rfl (by kernel_rfl) (by kernel_rfl) (by kernel_rfl) (by kernel_rfl) (fun _ _ _ h => h) (Or.inl ⟨by rfl, ?_⟩) (by assumption) ?_; rotate_left; ((intro wS hSw; (try dsimp only at hSw); (try simp only [List.getElem_toArray, List.getElem_cons_zero, List.getElem_cons_succ]); go_simp); (try with_reducible rfl)); (try simp only [Act.put, List.getElem_toArray, List.getElem_cons_zero, List.getElem_cons_succ, List.setIfInBounds_toArray, List.set_cons_zero, List.set_cons_succ]))
      (refine wpAnyL_take (i := 1) (v := ?_) rfl (by kernel_rfl) (by kernel_rfl) (by kernel_rfl) (by kernel_rfl) (fun _ _ _ h => h) (Or.inl ⟨by rfl, ?_⟩) (by assumption) ?_; rotate_left; ((intro wS hSw; (try dsimp only at hSw); (try simp only [List.getElem_toArray, List.getElem_cons_zero, List.getElem_cons_succ]); go_simp); (try with_reducible rfl)); (try simp only [Act.put, List.getElem_toArray, List.getElem_cons_zero, List.getElem_cons_succ, List.setIfInBounds_toArray, List.set_cons_zero, List.set_cons_succ]))
      (refine wpAnyL_take (i := 2) (v := ?_) rfl (by kernel_rfl) (by kernel_rfl) (by kernel_rfl) (by kernel_rfl) (fun _ _ _ h => h) (Or.inl ⟨by rfl, ?_⟩) (by assumption) ?_; rotate_left; ((intro wS hSw; (try dsimp only at hSw); (try simp only [List.getElem_toArray, List.getElem_cons_zero, List.getElem_cons_succ]); go_simp); (try with_reducible rfl)); (try simp only [Act.put, List.getElem_toArray, List.getElem_cons_zero, List.getElem_cons_succ, List.setIfInBounds_toArray, List.set_cons_zero, List.set_cons_succ]))
      (refine wpAnyL_take (i := 3) (v := ?_) rfl (by kernel_rfl) (by kernel_rfl) (by kernel_rfl) (by kernel_rfl) (fun _ _ _ h => h) (Or.inl ⟨by rfl, ?_⟩) (by assumption) ?_; rotate_left; ((intro wS hSw; (try dsimp only at hSw); (try simp only [List.getElem_toArray, List.getElem_cons_zero, List.getElem_cons_succ]); go_simp); (try with_reducible rfl)); (try simp only [Act.put, List.getElem_toArray, List.getElem_cons_zero, List.getElem_cons_succ, List.setIfInBounds_toArray, List.set_cons_zero, List.set_cons_succ]))
      (refine wpAnyL_take (i := 4) (v := ?_) rfl (by kernel_rfl) (by kernel_rfl) (by kernel_rfl) (by kernel_rfl) (fun _ _ _ h => h) (Or.inl ⟨by rfl, ?_⟩) (by assumption) ?_; rotate_left; ((intro wS hSw; (try dsimp only at hSw); (try simp only [List.getElem_toArray, List.getElem_cons_zero, List.getElem_cons_succ]); go_simp); (try with_reducible rfl)); (try simp only [Act.put, List.getElem_toArray, List.getElem_cons_zero, List.getElem_cons_succ, List.setIfInBounds_toArray, List.set_cons_zero, List.set_cons_succ]))
      (refine wpAnyL_take (i := 5) (v := ?_) rfl (by kernel_rfl) (by kernel_rfl) (by kernel_rfl) (by kernel_rfl) (fun _ _ _ h => h) (Or.inl ⟨by rfl, ?_⟩) (by assumption) ?_; rotate_left; ((intro wS hSw; (try dsimp only at hSw); (try simp only [List.getElem_toArray, List.getElem_cons_zero, List.getElem_cons_succ]); go_simp); (try with_reducible rfl)); (try simp only [Act.put, List.getElem_toArray, List.getElem_cons_zero, List.getElem_cons_succ, List.setIfInBounds_toArray, List.set_cons_zero, List.set_cons_succ]))
      (refine wpAnyL_take (i := 6) (v := ?_) rfl (by kernel_rfl) (by kernel_rfl) (by kernel_rfl) (by kernel_rfl) (fun _ _ _ h => h) (Or.inl ⟨by rfl, ?_⟩) (by assumption) ?_; rotate_left; ((intro wS hSw; (try dsimp only at hSw); (try simp only [List.getElem_toArray, List.getElem_cons_zero, List.getElem_cons_succ]); go_simp); (try with_reducible rfl)); (try simp only [Act.put, List.getElem_toArray, List.getElem_cons_zero, List.getElem_cons_succ, List.setIfInBounds_toArray, List.set_cons_zero, List.set_cons_succ]))
      (refine wpAnyL_take (i := 7) (v := ?_) rfl (by kernel_rfl) (by kernel_rfl) (by kernel_rfl) (by kernel_rfl) (fun _ _ _ h => h) (Or.inl ⟨by rfl, ?_⟩) (by assumption) ?_; rotate_left; ((intro wS hSw; (try dsimp only at hSw); (try simp only [List.getElem_toArray, List.getElem_cons_zero, List.getElem_cons_succ]); go_simp); (try with_reducible rfl)); (try simp only [Act.put, List.getElem_toArray, List.getElem_cons_zero, List.getElem_cons_succ, List.setIfInBounds_toArray, List.set_cons_zero, List.set_cons_succ]))
      (refine wpAnyL_take (i := 8) (v := ?_) rfl (by kernel_rfl) (by kernel_rfl) (by kernel_rfl) (by kernel_rfl) (fun _ _ _ h => h) (Or.inl ⟨by rfl, ?_⟩) (by assumption) ?_; rotate_left; ((intro wS hSw; (try dsimp only at hSw); (try simp only [List.getElem_toArray, List.getElem_cons_zero, List.getElem_cons_succ]); go_simp); (try with_reducible rfl)); (try simp only [Act.put, List.getElem_toArray, List.getElem_cons_zero, List.getElem_cons_succ, List.setIfInBounds_toArray, List.set_cons_zero, List.set_cons_succ]))
      (refine wpAnyL_one (i := 9) (by kernel_rfl) rfl (fun K hK => ?_))
      go_simp
      have hxA : Ext w1 (w1.drew.alloc (.cells #[.int .i64 n, .string ⟨data.toArray⟩] 112)) := by (· repeat (first | (with_reducible assumption) | exact Ext.refl _ | refine Ext.alloc ?_ _ | refine Ext.drew ?_ | refine Ext.drewN ?_ _ | (apply Ext.snart; (with_reducible assumption))))
      (refine hK.out _ _ (fun _ => ⟨Ext.cellS hxA c1, run_strB (HV1.out.ext hxA)⟩) (fun hS => ?_); clear hK K)
      have hS := hS (by decide)
      (refine wpAnyL_one (i := 10) (by kernel_rfl) rfl (fun K hK => ?_))
      refine step_app1 rWS rfl _ _ _ _ _ 24 rfl Try.underlying63 infoW1 rfl B (Nat.le_trans (Nat.le_trans hlow (Nat.le_of_lt hgl)) hxA.size) (.slice pa P.length pc) P rfl (H1.out.pend.ext hxA) [.int .i64 n, .string (bS' data)] (n, data) rfl _ rfl (heap_alloc_new _ _) (by omega) (by omega) ?_
      intro v6 w6 k1 k2 k3
      have hk6 : Keep (fun k => (Value.slice pa P.length pc).ownBlock ≠ some k) w1 w6 := (hxA.keep _).trans ((keep_grown k2).mono fun k hk _ e => hk e.symm)
      have hb6 : ∀ k, v6.ownBlock = some k → (Value.slice pa P.length pc).ownBlock = some k ∨ w1.heap.size ≤ k := fun k hk => (k3 k hk).imp id (fun h => Nat.le_trans hxA.size h)
      have hnew := H1.out.put hk6 k1 hb6 HR.out HD.out
      have hr6 := (hk6.block g (fun e => (H1.out.pg g e).1 rfl) hgl).trans H1.out.row
      have q1 := (cell_of_row _ _ 1 _ _ _ hr6).trans rfl
      have q2 : (convert 22 9 (.slice va data.length vc)).run Try.prog w6 = .ok (.string ⟨data.toArray⟩) w6 := run_strB (Rd.carry HV1.out hk6.size fun k hk hl => hk6.block k (fun e => HVB.out k hk (.inr (.inr e))) hl)
      have f1 := blk_fro hr6 1
      obtain ⟨a6, c6, hv6⟩ := k1.slice
      rw [List.length_append, List.length_singleton] at hv6
      subst hv6
      have HNEW := hid hnew
      have HB6 := hid hb6
      have HK6 := hid hk6
      clear k1 k2 k3 hk6 hr6 hb6 hnew
      (refine hK.out _ _ (fun _ => ⟨q1, q2⟩) (fun hS => ?_); clear hK K)
      have hS := hS (by decide)
      (refine wpAnyL_one (i := 11) (by kernel_rfl) rfl (fun K hK => ?_))
      go_simp
      (refine hK.out _ _ (fun _ => ⟨q1, q2⟩) (fun hS => ?_); clear hK K)
      have hS := hS (by decide)
      (refine wpAnyL_one (i := 12) (by kernel_rfl) rfl (fun K hK => ?_))
      go_simp
      (refine hK.out _ _ (fun _ => ⟨q1, q2⟩) (fun hS => ?_); clear hK K)
      clear hS
      (refine wpAnyL_one (i := 13) (by kernel_rfl) rfl (fun K hK => ?_))
      go_simp
      (refine hK.out _ _ (fun h => absurd rfl h) (fun _ => ?_); clear hK K; refine wpAnyL_done (by kernel_rfl) ?_ _)
      refine NoPanic.normal ?_
      clear q1 q2 f1 hxA hxd
      go_wp2_with fail
      go_ret
      rw [HOP.out, ← HE.out]
      refine ⟨rfl, ⟨_, rf1, P ++ [(n, data)], ?_, fun k hk => (HB6.out k hk).imp id (fun h => Nat.le_trans hz1 h)⟩, ((HK1.out.mono fun k hk _ e => hk (.inl e)).trans (HK6.out.mono fun k hk _ e => hk (.inr (.inr e)))).trans ((Keep.refl _ _).setCell (by intro h; exact h (.inl rfl)) _)⟩
      rw [← HSM.out]
      exact HNEW.out
    · clear h1 hsm1 hsm2 hok
      go_wp2_with fail
      go_ret
      rw [HOP.out, ← HE.out]
      rw [if_neg hx]
      exact ⟨rfl, ⟨_, rf1, P, H1.out.mono (by omega), fun k hk => .inl hk⟩, HK1.out.mono fun k hk _ e => hk (.inl e)⟩
  · have hop : writeF d n data = opF d n 21 := by
      unfold writeF; rw [if_neg hd]
      exact if_neg fun e => by have := (opF_ok e).1; omega
    have HOP := hid hop
    have hx : ¬ (opF d n 21).1 = 0 := fun e => by have := (opF_ok e).1; omega
    have t1 : ((data.length : Int) != 512) = true := by simp; omega
    clear hop
    go_enter Try.func61, Try.ntmps61
    go_wp2_with fail
    refine (begin_any H.out (by omega) n HN.out true).mono ?_
    rintro e w1 ⟨rfl, ⟨rf1, h1⟩, hk1⟩
    have e0 : (if true = true then (21 : Int) else 0) = 21 := rfl
    rw [e0] at h1 ⊢
    obtain ⟨X, hX⟩ : ∃ X, X = opF d n 21 := ⟨_, rfl⟩
    rw [← hX] at h1 hx ⊢
    obtain ⟨ec, d1⟩ := X
    dsimp only at h1 hx
    have HE := hid hX
    have HK1 := hid hk1
    have H1 := hid h1
    clear hX hk1 e0 h1
    go_wp2_with fail
    go_ret
    rw [HOP.out, ← HE.out]
    exact ⟨rfl, ⟨_, rf1, P, H1.out.mono (by omega), fun k hk => .inl hk⟩, HK1.out.mono fun k hk _ e => hk (.inl e)⟩

theorem OwnS.zero {α : Type} {r : Rdr α} {t : TypeId} {w : World} {B : Nat} {S : Nat → Prop} {v : Value} {xs : List α} (h : OwnS r t w B S v xs) (hn : 0 < xs.length) : ∃ g cap, v = .slice (some ⟨g, 0, none⟩) xs.length cap ∧ ∀ j, w.frozen? ⟨g, j, none⟩ = false := by
  obtain ⟨gl, rfl, e2, -⟩ := h
  rcases id e2.2 with ⟨-, h1⟩ | ⟨g', cap, cur, h0, -⟩
  · rw [List.length_map] at hn; omega
  · subst h0
    exact ⟨g', cap, by rw [List.length_map], fun j => World.ownsRow.frozenAt e2 j⟩
/-- the safe blocks, once those of P are in -/
def putAll (P : List (Int × Bk)) (s : List Bk) : List Bk := P.foldl (fun s p => s.set p.1.toNat p.2) s
theorem putAll_snoc (P : List (Int × Bk)) (p : Int × Bk) (s : List Bk) : putAll (P ++ [p]) s = (putAll P s).set p.1.toNat p.2 := by unfold putAll; rw [List.foldl_append]; rfl
theorem putAll_len : ∀ (P : List (Int × Bk)) (s : List Bk), (putAll P s).length = s.length
  | [], s => rfl
  | p :: ps, s => by
    show (putAll ps (s.set p.1.toNat p.2)).length = _
    rw [putAll_len ps, List.length_set]
theorem putAll_at (n : Nat) : ∀ (P : List (Int × Bk)) (s : List Bk), n < s.length → (∀ p ∈ P, 0 ≤ p.1) → (putAll P s).getD n zb = lastP P n (s.getD n zb)
  | [], s, _, _ => rfl
  | p :: ps, s, hn, hp => by
    show (putAll ps (s.set p.1.toNat p.2)).getD n zb = lastP ps n (if p.1 = n then p.2 else s.getD n zb)
    rw [putAll_at n ps _ (by rw [List.length_set]; exact hn) fun q hq => hp q (by simp [hq])]
    congr 1
    have h0 := hp p (by simp)
    by_cases h : p.1 = n
    · rw [if_pos h]
      have : p.1.toNat = n := by omega
      rw [this]; simp [hn]
    · rw [if_neg h]
      have : ¬ p.1.toNat = n := by omega
      rw [List.getD_eq_getElem?_getD, List.getElem?_set_ne this, ← List.getD_eq_getElem?_getD]
theorem putAll_cur {d : Dv} {P : List (Int × Bk)} (hrel : ∀ n, d.pend n = selP P n) (hp : ∀ p ∈ P, 0 ≤ p.1) : putAll P d.safe = (List.range d.safe.length).map fun (j : Nat) => curF d (j : Int) := by
  apply List.ext_getElem
  · simp [putAll_len]
  · intro n h1 h2
    rw [putAll_len] at h1
    have h3 := putAll_at n P d.safe h1 hp
    rw [List.getD_eq_getElem?_getD, List.getElem?_eq_getElem (by rw [putAll_len]; exact h1), Option.getD_some] at h3
    rw [h3, lastP_sel]
    simp [curF, hrel]
set_option maxRecDepth 100000 in
set_option maxHeartbeats 2000000 in
theorem RFlush_any {w : World} {B M g : Nat} {sv pv : Value} {rf : Int} {d : Dv} {P : List (Int × Bk)} (h : RAt w B M g sv pv rf d P) (hM : M ≤ 1000000) :
    Calls Try.prog 62 #[.pointer (some ⟨g, 0, none⟩)] w fun e w' =>
      e = .returned (.int .i64 (flushF d).1) ∧ (∃ pv' rf' P', RAt w' B (M + 2) g sv pv' rf' (flushF d).2 P' ∧ ∀ k, pv'.ownBlock = some k → pv.ownBlock = some k ∨ w.heap.size ≤ k) ∧ Keep (fun k => ¬ RBl g sv pv k) w w' := by
  have hop : flushF d = if (opF d 0 0).1 = 0 then (0, { (opF d 0 0).2 with safe := (List.range d.safe.length).map fun (j : Nat) => curF d (j : Int), pend := fun _ => [] }) else opF d 0 0 := rfl
  have hcu := putAll_cur h.rel (fun p hp => (h.rng p hp).1.1)
  rw [← hcu] at hop
  have HOP := hid hop
  have H := hid h
  clear h hop hcu
  go_enter Try.func62, Try.ntmps62
  go_wp2_with fail
  refine (begin_any H.out (by omega) 0 (by omega) false).mono ?_
  rintro e w1 ⟨rfl, ⟨rf1, h1⟩, hk1⟩
  have e0 : (if false = true then (21 : Int) else 0) = 0 := rfl
  obtain ⟨hsm1, hsm2⟩ := opF_same d 0 0
  rw [e0] at h1 ⊢
  obtain ⟨X, hX⟩ : ∃ X, X = opF d 0 0 := ⟨_, rfl⟩
  rw [← hX] at h1 hsm1 hsm2 ⊢
  obtain ⟨ec, d1⟩ := X
  dsimp only at h1 hsm1 hsm2
  have HE := hid hX
  have HK1 := hid hk1
  have H1 := hid h1
  have HSM := hid hsm1
  clear hX hk1 e0 hsm1 hsm2
  by_cases hx : ec = 0
  · subst hx
    have hml := h1.many
    have hmany := h1.rng
    have HRNG := hid hmany
    clear h1 hmany
    go_wp2_with fail
    go_loopw [4] (fun u4 wr => ∃ i : Nat, u4 = .int .i64 i ∧ i ≤ P.length ∧ RAt wr B (M + 1) g sv pv rf1 { d1 with safe := putAll (P.take i) d1.safe } P ∧ Keep (fun k => ¬ RBl g sv pv k) w1 wr) (fun u4 _ => P.length - (intOf u4).toNat)
    case atStart => exact ⟨0, rfl, Nat.zero_le _, H1.out, Keep.refl _ _⟩
    case round =>
      obtain ⟨i, rfl, hi, hr, hk⟩ := hrel
      have HR := hid hr
      have HK := hid hk
      obtain ⟨pa, pc, hpv⟩ := hr.pend.slice
      subst hpv
      have c1 := hr.c1
      by_cases hlt : i < P.length
      · obtain ⟨gp, op, cp, e, -, -, q0, q1⟩ := hr.pend.rd.atWS i hlt
        simp only [Value.slice.injEq] at e
        obtain ⟨rfl, -, rfl⟩ := e
        obtain ⟨⟨r1, r2⟩, r3⟩ := hr.rng _ (List.getElem_mem hlt)
        have htk : P.take (i + 1) = P.take i ++ [P[i]] := (List.take_append_getElem hlt).symm
        have HTK := hid htk
        have HRR := hid r3
        have hsl : (putAll (P.take i) d1.safe).length = d1.safe.length := putAll_len _ _
        have HSL := hid hsl
        generalize P[i] = x at q0 q1 r1 r2 HTK HRR
        obtain ⟨xn, xb⟩ := x
        dsimp only at q0 q1 r1 r2
        obtain ⟨nn, rfl⟩ : ∃ nn : Nat, xn = nn := ⟨xn.toNat, by omega⟩
        have r4 : nn < (putAll (P.take i) d1.safe).length := by omega
        obtain ⟨gs, cap0, hsv, hfro⟩ := hr.safe.zero (Nat.lt_of_le_of_lt (Nat.zero_le _) r4)
        obtain ⟨gs', os, cs, hsv2, -, -, d0⟩ := hr.safe.rd.atSB nn r4
        dsimp only at hsv hsv2 d0
        rw [hsv] at hsv2
        simp only [Value.slice.injEq, Option.some.injEq, Addr.mk.injEq] at hsv2
        obtain ⟨⟨rfl, rfl, -⟩, -, rfl⟩ := hsv2
        rw [hsl] at hsv
        subst hsv
        have hset := (show RAt wr B (M + 1) g (.slice (some ⟨gs, 0, none⟩) ({ d1 with safe := putAll (P.take i) d1.safe } : Dv).safe.length cap0) (.slice (some ⟨gp, op, none⟩) P.length pc) rf1 { d1 with safe := putAll (P.take i) d1.safe } P by
          show RAt wr B (M + 1) g (.slice (some ⟨gs, 0, none⟩) (putAll (P.take i) d1.safe).length cap0) _ _ _ _
          rw [hsl]; exact hr).setSafe nn r4 HRR.out
        have hset2 : RAt (wr.setCell ⟨gs, nn, none⟩ (.string (bS' xb))) B (M + 1) g (.slice (some ⟨gs, 0, none⟩) d1.safe.length cap0) (.slice (some ⟨gp, op, none⟩) P.length pc) rf1 { d1 with safe := putAll (P.take (i + 1)) d1.safe } P := by
          rw [HTK.out, putAll_snoc, ← hsl]
          exact hset
        have HSET := hid hset2
        have c0 := hr.c0
        have f0 := hfro nn
        rw [Nat.zero_add] at d0
        have r5 : (nn : Int) < (d1.safe.length : Int) := by omega
        have i2 : (i : Int) < (P.length : Int) := by omega
        have hw1 : IntKind.i64.wrap ((i : Int) + 1) = (i : Int) + 1 := by rw [IntKind.wrap_i64]; omega
        have hns : RBl g (.slice (some ⟨gs, 0, none⟩) d1.safe.length cap0) (.slice (some ⟨gp, op, none⟩) P.length pc) gs := .inr (.inl rfl)
        have HNS := hid hns
        generalize bS' (putAll (P.take i) d1.safe)[nn] = old at d0
        clear hr hk hset hset2 r2 hsl hns
        go_wp2_with fail
        have hxd : Ext wr wr.drew := by (· repeat (first | (with_reducible assumption) | exact Ext.refl _ | refine Ext.alloc ?_ _ | refine Ext.drew ?_ | refine Ext.drewN ?_ _ | (apply Ext.snart; (with_reducible assumption))))
        refine wp_region_T (fun w' => w'.cell? ⟨g, 0, none⟩ = some (.slice (some ⟨gs, 0, none⟩) d1.safe.length cap0) ∧ w'.cell? ⟨g, 1, none⟩ = some (.slice (some ⟨gp, op, none⟩) P.length pc) ∧ w'.cell? ⟨gp, op + i * 2, none⟩ = some (.int .i64 nn) ∧ w'.cell? ⟨gp, op + i * 2 + 1, none⟩ = some (.string (bS' xb))) [21] (by kernel_rfl) ⟨Ext.cellS hxd c0, Ext.cellS hxd c1, Ext.cellS hxd q0, Ext.cellS hxd q1⟩ (fun hS => ?_)
        (refine wpAnyT_take (i := 0) (v := ?_) rfl (by kernel_rfl) (by kernel_rfl) (by kernel_rfl) (by kernel_rfl) (fun _ _ _ h => h) (Or.inl ⟨by rfl, ?_⟩) (by assumption) ?_; rotate_left; ((intro wS hSw; (try dsimp only at hSw); (try simp only [List.getElem_toArray, List.getElem_cons_zero, List.getElem_cons_succ]); go_simp); (try with_reducible rfl)); (try simp only [Act.put, List.getElem_toArray, List.getElem_cons_zero, List.getElem_cons_succ, List.setIfInBounds_toArray, List.set_cons_zero, List.set_cons_succ]))
        (refine wpAnyT_take (i := 1) (v := ?_) rfl (by kernel_rfl) (by kernel_rfl) (by kernel_rfl) (by kernel_rfl) (fun _ _ _ h => h) (Or.inl ⟨by rfl, ?_⟩) (by assumption) ?_; rotate_left; ((intro wS hSw; (try dsimp only at hSw); (try simp only [List.getElem_toArray, List.getElem_cons_zero, List.getElem_cons_succ]); go_simp); (try with_reducible rfl)); (try simp only [Act.put, List.getElem_toArray, List.getElem_cons_zero, List.getElem_cons_succ, List.setIfInBounds_toArray, List.set_cons_zero, List.set_cons_succ]))
        (refine wpAnyT_take (i := 2) (v := ?_) rfl (by kernel_rfl) (by kernel_rfl) (by kernel_rfl) (by kernel_rfl) (fun _ _ _ h => h) (Or.inl ⟨by rfl, ?_⟩) (by assumption) ?_; rotate_left; ((intro wS hSw; (try dsimp only at hSw); (try simp only [List.getElem_toArray, List.getElem_cons_zero, List.getElem_cons_succ]); go_simp); (try with_reducible rfl)); (try simp only [Act.put, List.getElem_toArray, List.getElem_cons_zero, List.getElem_cons_succ, List.setIfInBounds_toArray, List.set_cons_zero, List.set_cons_succ]))
        (refine wpAnyT_take (i := 3) (v := ?_) rfl (by kernel_rfl) (by kernel_rfl) (by kernel_rfl) (by kernel_rfl) (fun _ _ _ h => h) (Or.inl ⟨by rfl, ?_⟩) (by assumption) ?_; rotate_left; ((intro wS hSw; (try dsimp only at hSw); (try simp only [List.getElem_toArray, List.getElem_cons_zero, List.getElem_cons_succ]); go_simp); (try with_reducible rfl)); (try simp only [Act.put, List.getElem_toArray, List.getElem_cons_zero, List.getElem_cons_succ, List.setIfInBounds_toArray, List.set_cons_zero, List.set_cons_succ]))
        (refine wpAnyT_take (i := 4) (v := ?_) rfl (by kernel_rfl) (by kernel_rfl) (by kernel_rfl) (by kernel_rfl) (fun _ _ _ h => h) (Or.inl ⟨by rfl, ?_⟩) (by assumption) ?_; rotate_left; ((intro wS hSw; (try dsimp only at hSw); (try simp only [List.getElem_toArray, List.getElem_cons_zero, List.getElem_cons_succ]); go_simp); (try with_reducible rfl)); (try simp only [Act.put, List.getElem_toArray, List.getElem_cons_zero, List.getElem_cons_succ, List.setIfInBounds_toArray, List.set_cons_zero, List.set_cons_succ]))
        (refine wpAnyT_take (i := 5) (v := ?_) rfl (by kernel_rfl) (by kernel_rfl) (by kernel_rfl) (by kernel_rfl) (fun _ _ _ h => h) (Or.inl ⟨by rfl, ?_⟩) (by assumption) ?_; rotate_left; ((intro wS hSw; (try dsimp only at hSw); (try simp only [List.getElem_toArray, List.getElem_cons_zero, List.getElem_cons_succ]); go_simp); (try with_reducible rfl)); (try simp only [Act.put, List.getElem_toArray, List.getElem_cons_zero, List.getElem_cons_succ, List.setIfInBounds_toArray, List.set_cons_zero, List.set_cons_succ]))
        (refine wpAnyT_take (i := 6) (v := ?_) rfl (by kernel_rfl) (by kernel_rfl) (by kernel_rfl) (by kernel_rfl) (fun _ _ _ h => h) (Or.inl ⟨by rfl, ?_⟩) (by assumption) ?_; rotate_left; ((intro wS hSw; (try dsimp only at hSw); (try simp only [List.getElem_toArray, List.getElem_cons_zero, List.getElem_cons_succ]); go_simp); (try with_reducible rfl)); (try simp only [Act.put, List.getElem_toArray, List.getElem_cons_zero, List.getElem_cons_succ, List.setIfInBounds_toArray, List.set_cons_zero, List.set_cons_succ]))
        (refine wpAnyT_take (i := 7) (v := ?_) rfl (by kernel_rfl) (by kernel_rfl) (by kernel_rfl) (by kernel_rfl) (fun _ _ _ h => h) (Or.inl ⟨by rfl, ?_⟩) (by assumption) ?_; rotate_left; ((intro wS hSw; (try dsimp only at hSw); (try simp only [List.getElem_toArray, List.getElem_cons_zero, List.getElem_cons_succ]); go_simp); (try with_reducible rfl)); (try simp only [Act.put, List.getElem_toArray, List.getElem_cons_zero, List.getElem_cons_succ, List.setIfInBounds_toArray, List.set_cons_zero, List.set_cons_succ]))
        (refine wpAnyT_take (i := 8) (v := ?_) rfl (by kernel_rfl) (by kernel_rfl) (by kernel_rfl) (by kernel_rfl) (fun _ _ _ h => h) (Or.inl ⟨by rfl, ?_⟩) (by assumption) ?_; rotate_left; ((intro wS hSw; (try dsimp only at hSw); (try simp only [List.getElem_toArray, List.getElem_cons_zero, List.getElem_cons_succ]); go_simp); (try with_reducible rfl)); (try simp only [Act.put, List.getElem_toArray, List.getElem_cons_zero, List.getElem_cons_succ, List.setIfInBounds_toArray, List.set_cons_zero, List.set_cons_succ]))
        (refine wpAnyT_take (i := 9) (v := ?_) rfl (by kernel_rfl) (by kernel_rfl) (by kernel_rfl) (by kernel_rfl) (fun _ _ _ h => h) (Or.inl ⟨by rfl, ?_⟩) (by assumption) ?_; rotate_left; ((intro wS hSw; (try dsimp only at hSw); (try simp only [List.getElem_toArray, List.getElem_cons_zero, List.getElem_cons_succ]); go_simp); (try with_reducible rfl)); (try simp only [Act.put, List.getElem_toArray, List.getElem_cons_zero, List.getElem_cons_succ, List.setIfInBounds_toArray, List.set_cons_zero, List.set_cons_succ]))
        (refine wpAnyT_take (i := 10) (v := ?_) rfl (by kernel_rfl) (by kernel_rfl) (by kernel_rfl) (by kernel_rfl) (fun _ _ _ h => h) (Or.inl ⟨by rfl, ?_⟩) (by assumption) ?_; rotate_left; ((intro wS hSw; (try dsimp only at hSw); (try simp only [List.getElem_toArray, List.getElem_cons_zero, List.getElem_cons_succ]); go_simp); (try with_reducible rfl)); (try simp only [Act.put, List.getElem_toArray, List.getElem_cons_zero, List.getElem_cons_succ, List.setIfInBounds_toArray, List.set_cons_zero, List.set_cons_succ]))
        (refine wpAnyT_take (i := 11) (v := ?_) rfl (by kernel_rfl) (by kernel_rfl) (by kernel_rfl) (by kernel_rfl) (fun _ _ _ h => h) (Or.inl ⟨by rfl, ?_⟩) (by assumption) ?_; rotate_left; ((intro wS hSw; (try dsimp only at hSw); (try simp only [List.getElem_toArray, List.getElem_cons_zero, List.getElem_cons_succ]); go_simp); (try with_reducible rfl)); (try simp only [Act.put, List.getElem_toArray, List.getElem_cons_zero, List.getElem_cons_succ, List.setIfInBounds_toArray, List.set_cons_zero, List.set_cons_succ]))
        (refine wpAnyT_take (i := 12) (v := ?_) rfl (by kernel_rfl) (by kernel_rfl) (by kernel_rfl) (by kernel_rfl) (fun _ _ _ h => h) (Or.inl ⟨by rfl, ?_⟩) (by assumption) ?_; rotate_left; ((intro wS hSw; (try dsimp only at hSw); (try simp only [List.getElem_toArray, List.getElem_cons_zero, List.getElem_cons_succ]); go_simp); (try with_reducible rfl)); (try simp only [Act.put, List.getElem_toArray, List.getElem_cons_zero, List.getElem_cons_succ, List.setIfInBounds_toArray, List.set_cons_zero, List.set_cons_succ]))
        (refine wpAnyT_take (i := 13) (v := ?_) rfl (by kernel_rfl) (by kernel_rfl) (by kernel_rfl) (by kernel_rfl) (fun _ _ _ h => h) (Or.inl ⟨by rfl, ?_⟩) (by assumption) ?_; rotate_left; ((intro wS hSw; (try dsimp only at hSw); (try simp only [List.getElem_toArray, List.getElem_cons_zero, List.getElem_cons_succ]); go_simp); (try with_reducible rfl)); (try simp only [Act.put, List.getElem_toArray, List.getElem_cons_zero, List.getElem_cons_succ, List.setIfInBounds_toArray, List.set_cons_zero, List.set_cons_succ]))
        (refine wpAnyT_take (i := 14) (v := ?_) rfl (by kernel_rfl) (by kernel_rfl) (by kernel_rfl) (by kernel_rfl) (fun _ _ _ h => h) (Or.inl ⟨by rfl, ?_⟩) (by assumption) ?_; rotate_left; ((intro wS hSw; (try dsimp only at hSw); (try simp only [List.getElem_toArray, List.getElem_cons_zero, List.getElem_cons_succ]); go_simp); (try with_reducible rfl)); (try simp only [Act.put, List.getElem_toArray, List.getElem_cons_zero, List.getElem_cons_succ, List.setIfInBounds_toArray, List.set_cons_zero, List.set_cons_succ]))
        (refine wpAnyT_take (i := 15) (v := ?_) rfl (by kernel_rfl) (by kernel_rfl) (by kernel_rfl) (by kernel_rfl) (fun _ _ _ h => h) (Or.inl ⟨by rfl, ?_⟩) (by assumption) ?_; rotate_left; ((intro wS hSw; (try dsimp only at hSw); (try simp only [List.getElem_toArray, List.getElem_cons_zero, List.getElem_cons_succ]); go_simp); (try with_reducible rfl)); (try simp only [Act.put, List.getElem_toArray, List.getElem_cons_zero, List.getElem_cons_succ, List.setIfInBounds_toArray, List.set_cons_zero, List.set_cons_succ]))
        (refine wpAnyT_take (i := 16) (v := ?_) rfl (by kernel_rfl) (by kernel_rfl) (by kernel_rfl) (by kernel_rfl) (fun _ _ _ h => h) (Or.inl ⟨by rfl, ?_⟩) (by assumption) ?_; rotate_left; ((intro wS hSw; (try dsimp only at hSw); (try simp only [List.getElem_toArray, List.getElem_cons_zero, List.getElem_cons_succ]); go_simp); (try with_reducible rfl)); (try simp only [Act.put, List.getElem_toArray, List.getElem_cons_zero, List.getElem_cons_succ, List.setIfInBounds_toArray, List.set_cons_zero, List.set_cons_succ]))
        (refine wpAnyT_take (i := 17) (v := ?_) rfl (by kernel_rfl) (by kernel_rfl) (by kernel_rfl) (by kernel_rfl) (fun _ _ _ h => h) (Or.inl ⟨by rfl, ?_⟩) (by assumption) ?_; rotate_left; ((intro wS hSw; (try dsimp only at hSw); (try simp only [List.getElem_toArray, List.getElem_cons_zero, List.getElem_cons_succ]); go_simp); (try with_reducible rfl)); (try simp only [Act.put, List.getElem_toArray, List.getElem_cons_zero, List.getElem_cons_succ, List.setIfInBounds_toArray, List.set_cons_zero, List.set_cons_succ]))
        (refine wpAnyT_take (i := 18) (v := ?_) rfl (by kernel_rfl) (by kernel_rfl) (by kernel_rfl) (by kernel_rfl) (fun _ _ _ h => h) (Or.inl ⟨by rfl, ?_⟩) (by assumption) ?_; rotate_left; ((intro wS hSw; (try dsimp only at hSw); (try simp only [List.getElem_toArray, List.getElem_cons_zero, List.getElem_cons_succ]); go_simp); (try with_reducible rfl)); (try simp only [Act.put, List.getElem_toArray, List.getElem_cons_zero, List.getElem_cons_succ, List.setIfInBounds_toArray, List.set_cons_zero, List.set_cons_succ]))
        (refine wpAnyT_take (i := 19) (v := ?_) rfl (by kernel_rfl) (by kernel_rfl) (by kernel_rfl) (by kernel_rfl) (fun _ _ _ h => h) (Or.inl ⟨by rfl, ?_⟩) (by assumption) ?_; rotate_left; ((intro wS hSw; (try dsimp only at hSw); (try simp only [List.getElem_toArray, List.getElem_cons_zero, List.getElem_cons_succ]); go_simp); (try with_reducible rfl)); (try simp only [Act.put, List.getElem_toArray, List.getElem_cons_zero, List.getElem_cons_succ, List.setIfInBounds_toArray, List.set_cons_zero, List.set_cons_succ]))
        refine wpAnyT_all (rs := [20]) (by kernel_rfl) (by decide) (AllT.consS rfl (fun K hK => ?_) AllT.nil)
        go_simp
        (refine hK.out _ _ (hS) (fun hS => ?_); clear hK K)
        refine wpAnyT_all (rs := [21]) (by kernel_rfl) (by decide) (AllT.consF rfl rfl (fun K hK => ?_) AllT.nil)
        go_simp
        (refine hK.out _ _ ?_; clear hK K)
        refine wpAnyT_done (by kernel_rfl) (NoPanic.normal ?_) _
        go_wp2_with fail
        refine ⟨⟨i + 1, rfl, by omega, HSET.out.ext (Ext.refl _).drew, (HK.out.trans ((Keep.refl _ _).setCell (fun h => h HNS.out) _)).drew⟩, by simp only [intOf]; omega⟩
      · have hie : i = P.length := by omega
        subst hie
        have i2 : ¬ (P.length : Int) < (P.length : Int) := by omega
        rw [List.take_length] at hr
        have HR := hid hr
        have f1 := blk_fro hr.row 1
        clear hr hk
        go_wp2_with fail
        go_ret
        rw [HOP.out, ← HE.out]
        refine ⟨rfl, ⟨.slice none 0 0, ⟨rf1, [], ?_⟩, fun k hk => by simp [Value.ownBlock] at hk⟩, ((HK1.out.mono fun k hk _ e => hk (.inl e)).trans HK.out).trans ((Keep.refl _ _).setCell (fun h => h (.inl rfl)) _)⟩
        have hs : Keep (fun k => k ≠ g) wr (wr.setCell ⟨g, 1, none⟩ (.slice none 0 0)) := (Keep.refl _ _).setCell (by simp) _
        have hr := HR.out
        rw [← HSM.out]
        exact {
          row := (blk_set (o := 1) hr.row (.slice none 0 0)).trans rfl
          low := hr.low
          safe := hr.safe.kept (hs.mono fun k hk _ => by
            rcases hk with hk | hk
            · exact hk.elim
            · exact hr.sg k hk)
          pend := OwnS.nil _ _ _ _ _
          sg := hr.sg
          pg := fun k hk => by simp [Value.ownBlock] at hk
          rel := fun _ => rfl
          rng := fun p hp => by simp at hp
          size := hr.size
          long := hr.long
          fuse := hr.fuse
          fb := hr.fb
          ops := ⟨hr.ops.1, by have := hr.ops.2; show d1.ops ≤ ((M + 2 : Nat) : Int); have h : d1.ops ≤ ((M + 1 : Nat) : Int) := this; omega⟩
          many := Nat.zero_le _ }
  · clear h1
    go_wp2_with fail
    go_ret
    rw [HOP.out, ← HE.out]
    rw [if_neg hx]
    exact ⟨rfl, ⟨_, rf1, P, H1.out.mono (by omega), fun k hk => .inl hk⟩, HK1.out.mono fun k hk _ e => hk (.inl e)⟩
end Go.Proofs.Ytgbiffpnfpdcoaa
