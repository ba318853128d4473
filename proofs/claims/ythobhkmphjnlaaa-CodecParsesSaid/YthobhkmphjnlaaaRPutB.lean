/- The reference's PutBatch, walked. -/
import Derived.Test.YthobhkmphjnlaaaPutB
import Derived.Test.YthobhkmphjnlaaaRefT
import Derived.Deep.RegionLaw
namespace Go.Proofs.Ythobhkmphjnlaaa
open Go.RowKit
set_option linter.unusedVariables false
set_option linter.unusedSimpArgs false

/-- bytes so far, in a row of the call's own, off some blocks -/
structure RowSt (w : World) (base : Nat) (bs : List Nat) (v : Value) (l : List UInt8) : Prop where
  own : OwnB w base v l
  off : ∀ b ∈ bs, v.ownBlock ≠ some b
theorem RowSt.ext {w w' : World} {base : Nat} {bs : List Nat} {v : Value} {l : List UInt8} (h : RowSt w base bs v l) (hx : Ext w w') : RowSt w' base bs v l := ⟨h.own.ext hx, h.off⟩
theorem RowSt.more {w : World} {base b : Nat} {bs : List Nat} {v : Value} {l : List UInt8} (h : RowSt w base bs v l) (hb : w.heap.size ≤ b) : RowSt w base (b :: bs) v l :=
  ⟨h.own, fun x hx e => by rcases List.mem_cons.1 hx with rfl | hx; exact absurd (World.ownsRow.lt h.own _ e).2 (by omega); exact h.off x hx e⟩
theorem RowSt.less {w : World} {base : Nat} {bs bs' : List Nat} {v : Value} {l : List UInt8} (h : RowSt w base bs v l) (hs : ∀ b ∈ bs', b ∈ bs) : RowSt w base bs' v l := ⟨h.own, fun b hb => h.off b (hs b hb)⟩
/-- what an append to such a row leaves: cells below base, and those of the blocks, stay -/
structure Off (w w' : World) (base : Nat) (bs : List Nat) : Prop where
  below : Below base w w'
  blk : ∀ b ∈ bs, b < w.heap.size → w'.heap[b]? = w.heap[b]?
theorem Off.of {w w' : World} {base : Nat} {bs : List Nat} (h : Ext w w') (hb : base ≤ w.heap.size) : Off w w' base bs := ⟨Below.mono h hb, fun b _ hl => Below.block h b hl⟩
theorem Off.trans {a b c : World} {base : Nat} {bs : List Nat} (h : Off a b base bs) (k : Off b c base bs) : Off a c base bs :=
  ⟨h.below.trans k.below, fun x hx hl => (k.blk x hx (Nat.lt_of_lt_of_le hl h.below.size)).trans (h.blk x hx hl)⟩
theorem Off.less {w w' : World} {base : Nat} {bs bs' : List Nat} (h : Off w w' base bs) (hs : ∀ b ∈ bs', b ∈ bs) : Off w w' base bs' := ⟨h.below, fun b hb => h.blk b (hs b hb)⟩
theorem Off.low {w w' : World} {base : Nat} {bs : List Nat} (h : Off w w' base bs) {p : Addr} {v : Value} (hc : w.cell? p = some v) (hp : p.block < base) : w'.cell? p = some v := by
  rw [World.cell?_of_block (w := w) (h.below.block p.block hp)]; exact hc
theorem Off.cell {w w' : World} {base : Nat} {bs : List Nat} (h : Off w w' base bs) {p : Addr} {v : Value} (hc : w.cell? p = some v) (hp : p.block ∈ bs) : w'.cell? p = some v := by
  rw [World.cell?_of_block (w := w) (h.blk p.block hp (World.block_lt_of_cell? _ _ hc))]; exact hc
theorem RowSt.app {w w' : World} {base : Nat} {bs : List Nat} {v v' : Value} {l m : List UInt8} (h : RowSt w base bs v l) (hlt : ∀ b ∈ bs, b < w.heap.size) (k3 : OwnB w base v l → OwnB w' base v' (l ++ m)) (k4 : w.grownBy w' v.ownBlock) (k5 : Below base w w') (k6 : ∀ k, v'.ownBlock = some k → v.ownBlock = some k ∨ w.heap.size ≤ k) : RowSt w' base bs v' (l ++ m) ∧ Off w w' base bs :=
  ⟨⟨k3 h.own, fun b hb e => by rcases k6 b e with e | e; exact h.off b hb e; have := hlt b hb; omega⟩, ⟨k5, fun b hb hl => k4.block b hl (fun e => h.off b hb e.symm)⟩⟩

theorem Off.ext {a w w' : World} {bs : List Nat} (h : Off w w' a.heap.size bs) (hx : Ext a w) : Ext a w' := Below.trans hx h.below
theorem OwnB.lowE {a w w1 : World} {v : Value} {l : List UInt8} (h : OwnB w1 w.heap.size v l) (hx : Ext a w) : OwnB w1 a.heap.size v l := OwnB.low h hx.size
theorem RowSt.mk' {w : World} {base : Nat} {v : Value} {l : List UInt8} (h : OwnB w base v l) : RowSt w base [] v l := ⟨h, fun _ h => nomatch h⟩

/-- append to such a row, as a step of a region that draws -/
theorem step_row {w : World} {ops : Array Oper} {o : Oper} {a : Act} {K : Act → World → Prop} {Q : Exit → Act → World → Prop} {E : Prop} (hgd : o.guard = none) (s x : Operand)
    (ho : o.op = .call { callee := .builtin .append, args := #[s, x], argTypes := #[54, 54] }) (base : Nat) (bs : List Nat)
    (v : Value) (l : List UInt8) (hrow : RowSt w base bs v l) (hs : a.eval s = v) (hlt : ∀ b ∈ bs, b < w.heap.size)
    (y : Value) (m : List UInt8) (hsrc : Src Try.prog 1 54 y m.length (bvs m) w) (hx : a.eval x = y)
    (hbytes : l.length + m.length ≤ 140737488355328) (hbase : base ≤ w.heap.size)
    (h : ∀ a' c' L w', L = l ++ m → RowSt w' base bs (.slice a' L.length c') L → Off w w' base bs → K (a.put o.dst (.slice a' L.length c')) w') :
    if Region.wanted o (yielded ops a.tmps) = true then Oper.wp Try.prog o a w K Q else E := by
  refine step_appB hgd s x 54 ho base v l hs (appB_own hrow.own) y m hx hsrc hbytes hbase ?_
  intro v' w' k1 k2 k3 k4 k5 k6
  obtain ⟨h1, h2⟩ := hrow.app hlt k3 k4 k5 k6
  obtain ⟨a', c', rfl⟩ := OwnB.slice h1.own
  exact h a' c' _ w' rfl h1 h2
theorem wl_row {w : World} {ops : Array Oper} {rest : List Oper} {o : Oper} {a : Act} {Q : Exit → Act → World → Prop} (hgd : o.guard = none) (s x : Operand)
    (ho : o.op = .call { callee := .builtin .append, args := #[s, x], argTypes := #[54, 54] }) (base : Nat) (bs : List Nat)
    (v : Value) (l : List UInt8) (hrow : RowSt w base bs v l) (hs : a.eval s = v) (hlt : ∀ b ∈ bs, b < w.heap.size)
    (y : Value) (m : List UInt8) (hsrc : Src Try.prog 1 54 y m.length (bvs m) w) (hx : a.eval x = y)
    (hbytes : l.length + m.length ≤ 140737488355328) (hbase : base ≤ w.heap.size)
    (h : ∀ a' c' L w', L = l ++ m → RowSt w' base bs (.slice a' L.length c') L → Off w w' base bs → wpList Try.prog ops Q rest (a.put o.dst (.slice a' L.length c')) w') : wpList Try.prog ops Q (o :: rest) a w := by
  refine wl_appB hgd s x 54 ho base v l hs (appB_own hrow.own) y m hx hsrc hbytes hbase ?_
  intro v' w' k1 k2 k3 k4 k5 k6
  obtain ⟨h1, h2⟩ := hrow.app hlt k3 k4 k5 k6
  obtain ⟨a', c', rfl⟩ := OwnB.slice h1.own
  exact h a' c' _ w' rfl h1 h2

theorem in1 {w : World} {b o : Nat} {v : Value} (h : w.cell? ⟨b, o, none⟩ = some v) : ∀ x ∈ [b], x < w.heap.size := by
  intro x hx
  obtain rfl := List.mem_singleton.1 hx
  exact World.block_lt_of_cell? _ _ h
theorem in2 {w : World} {b c o q : Nat} {v u : Value} (h : w.cell? ⟨b, o, none⟩ = some v) (k : w.cell? ⟨c, q, none⟩ = some u) : ∀ x ∈ [b, c], x < w.heap.size := by
  intro x hx
  rcases List.mem_cons.1 hx with rfl | hx
  · exact World.block_lt_of_cell? _ _ h
  · exact in1 k x hx
theorem memA (a : Nat) (l : List Nat) : a ∈ a :: l := List.mem_cons_self
theorem memB (a b : Nat) (l : List Nat) : b ∈ a :: b :: l := List.mem_cons_of_mem _ List.mem_cons_self

def RPutBEnd (w : World) (x : Bat) (e : Ending) (w' : World) : Prop :=
  ((putB x).2 = 0 → ∃ v', e = .returned (.tuple #[v', .int .i64 0]) ∧ OwnB w' w.heap.size v' (putB x).1) ∧
  ((putB x).2 ≠ 0 → e = .returned (.tuple #[.slice none 0 0, .int .i64 (((putB x).2 : Nat) : Int)])) ∧ Below w.heap.size w w'
theorem RPutBEnd.bad {w w' : World} {x : Bat} {c : Nat} (h : (putB x).2 = c) (hc : c ≠ 0) (hx : Ext w w') : RPutBEnd w x (.returned (.tuple #[.slice none 0 0, .int .i64 (c : Int)])) w' := by
  subst h
  exact ⟨fun e => absurd e hc, fun _ => rfl, hx⟩

set_option maxRecDepth 100000 in
set_option maxHeartbeats 8000000 in
theorem RPutBatch_any (w : World) (S : Nat → Prop) (s k : ByteArray) (n : Int) (ev : Value) (es : List Ev) (hs : s.size ≤ 9223372036854775807) (hk : k.size ≤ 9223372036854775807) (hn : -9223372036854775808 ≤ n ∧ n ≤ 9223372036854775807) (he : RdS rE w S ev es) :
    Calls Try.prog 30 #[.agg #[.string s, .string k, .int .i64 n, ev]] w (RPutBEnd w (s, k, n, es)) := by
  obtain ⟨hn1, hn2⟩ := hn
  obtain ⟨ea, ec, rfl, hec1, hec2⟩ := he.slice
  have HE := hid he
  clear he
  have hxa : Ext w (w.alloc (.cells #[.string s, .string k, .int .i64 n, .slice ea es.length ec] 31)) := (Ext.refl w).alloc _
  cases hh : headOk (s, k, n, es)
  · have H11 := hid (putB_head hh)
    have hall : nameOk s = false ∨ (nameOk s = true ∧ 60 < k.size) ∨ (nameOk s = true ∧ k.size ≤ 60 ∧ n < 0) ∨ (nameOk s = true ∧ k.size ≤ 60 ∧ 0 ≤ n ∧ 1099511627776 < n) ∨ (nameOk s = true ∧ k.size ≤ 60 ∧ 0 ≤ n ∧ n ≤ 1099511627776 ∧ es.length = 0) ∨ (nameOk s = true ∧ k.size ≤ 60 ∧ 0 ≤ n ∧ n ≤ 1099511627776 ∧ 16 < es.length) := by
      by_cases a0 : nameOk s = true
      · by_cases a1 : 60 < k.size
        · exact .inr (.inl ⟨a0, a1⟩)
        by_cases a2 : n < 0
        · exact .inr (.inr (.inl ⟨a0, by omega, a2⟩))
        by_cases a3 : 1099511627776 < n
        · exact .inr (.inr (.inr (.inl ⟨a0, by omega, by omega, a3⟩)))
        by_cases a4 : es.length = 0
        · exact .inr (.inr (.inr (.inr (.inl ⟨a0, by omega, by omega, by omega, a4⟩))))
        by_cases a5 : 16 < es.length
        · exact .inr (.inr (.inr (.inr (.inr ⟨a0, by omega, by omega, by omega, a5⟩))))
        exfalso
        have : headOk (s, k, n, es) = true := by
          unfold headOk
          simp only [Bool.and_eq_true, decide_eq_true_eq]
          exact ⟨⟨⟨a0, by omega⟩, by omega, by omega⟩, by omega, by omega⟩
        rw [hh] at this
        exact absurd this (by decide)
      · exact .inl (by simpa using a0)
    clear hh
    rcases hall with a0 | ⟨a0, a1⟩ | ⟨a0, a1, a2⟩ | ⟨a0, a1, a2, a3⟩ | ⟨a0, a1, a2, a3, a4⟩ | ⟨a0, a1, a2, a3, a4⟩
    all_goals
      try (have a5 : ((es.length : Int)) = 0 := by omega)
      have A0 := hid a0
      clear a0
      try (have A4 := hid a4)
      go_enter Try.func30, Try.ntmps30
      go_wp2_with (go_at_call 53; go_must (refine (named_any _ s hs).mono ?_; rw [A0.out]; rintro e w' ⟨rfl, rfl⟩))
      go_ret2
      exact RPutBEnd.bad H11.out (by decide) ((Ext.refl w).alloc _)
  · obtain ⟨hp1, hp2, hp3, hp4⟩ := headOk_parts hh
    dsimp only at hp1 hp2 hp3 hp4
    have hnm : nameOk s = true := by unfold nameOk; simp only [decide_eq_true_eq]; exact hp1
    have HNM := hid hnm
    have HHD := hid hh
    clear hnm hh
    obtain ⟨n, rfl⟩ := Int.eq_ofNat_of_zero_le hp3.1
    obtain ⟨hp3a, hp3b⟩ := hp3
    obtain ⟨wx, hwx⟩ : ∃ wx, wx = w.alloc (.cells #[.string s, .string k, .int .i64 (n : Int), .slice ea es.length ec] 31) := ⟨_, rfl⟩
    have hxx : Ext w wx := by rw [hwx]; exact (Ext.refl w).alloc _
    have hsx : wx.heap.size = w.heap.size + 1 := by rw [hwx]; simp
    have hrow : wx.heap[w.heap.size]? = some (.cells #[.string s, .string k, .int .i64 (n : Int), .slice ea es.length ec] 31 (0, 0)) := by rw [hwx]; exact heap_alloc_new _ _
    have c0 : wx.cell? ⟨w.heap.size, 0, none⟩ = some (.string s) := (cell_of_row _ _ _ _ _ _ hrow).trans rfl
    have c1 : wx.cell? ⟨w.heap.size, 1, none⟩ = some (.string k) := (cell_of_row _ _ _ _ _ _ hrow).trans rfl
    have c2 : wx.cell? ⟨w.heap.size, 2, none⟩ = some (.int .i64 (n : Int)) := (cell_of_row _ _ _ _ _ _ hrow).trans rfl
    have c3 : wx.cell? ⟨w.heap.size, 3, none⟩ = some (.slice ea es.length ec) := (cell_of_row _ _ _ _ _ _ hrow).trans rfl
    clear hxa hrow
    have hpn := putU_len n
    have hpe := putU_len es.length
    have hps := putT_le s.data.toList
    have hpk := putT_le k.data.toList
    rw [show s.data.toList.length = s.size from by rw [Array.length_toList]; rfl] at hps
    rw [show k.data.toList.length = k.size from by rw [Array.length_toList]; rfl] at hpk
    go_enter Try.func30, Try.ntmps30
    go_upto_region 3 with (go_at_call 53; go_must (refine (named_any _ s hs).mono ?_; rw [HNM.out]; rintro e w' ⟨rfl, rfl⟩))
    rw [← hwx]
    clear hwx
    have C1 := hid c1
    have C2 := hid c2
    have C3 := hid c3
    have C0 := hid c0
    go_region_held3 (fun w' => w'.cell? ⟨w.heap.size, 0, none⟩ = some (.string s) ∧ w'.cell? ⟨w.heap.size, 1, none⟩ = some (.string k)) (refine ⟨Ext.cellS (a := wx) ?_ C0.out, Ext.cellS (a := wx) ?_ C1.out⟩ <;> (· repeat (first | (with_reducible assumption) | exact Ext.refl _ | refine Ext.alloc ?_ _ | refine Ext.drew ?_ | refine Ext.drewN ?_ _ | (apply Ext.snart; (with_reducible assumption))))) (first | ((with_reducible refine at_step_append ?_); go_must (refine step_row rfl _ _ rfl wx.heap.size [] _ (putT s.data.toList) (RowSt.mk' (OwnB.ext HT1.out ?_)) rfl ?_ _ (putT k.data.toList) (src_B (RdB.ext hr2 ?_)) rfl ?_ ?_ ?_; (· repeat (first | (with_reducible assumption) | exact Ext.refl _ | refine Ext.alloc ?_ _ | refine Ext.drew ?_ | refine Ext.drewN ?_ _ | (apply Ext.snart; (with_reducible assumption)))); (exact fun _ h => nomatch h); (· repeat (first | (with_reducible assumption) | exact Ext.refl _ | refine Ext.alloc ?_ _ | refine Ext.drew ?_ | refine Ext.drewN ?_ _ | (apply Ext.snart; (with_reducible assumption)))); (first | omega | (simp only [List.length_append, List.length_cons, List.length_nil]; omega) | omega); (apply Ext.size; (· repeat (first | (with_reducible assumption) | exact Ext.refl _ | refine Ext.alloc ?_ _ | refine Ext.drew ?_ | refine Ext.drewN ?_ _ | (apply Ext.snart; (with_reducible assumption))))); intro a3 q3 L3 w3 hL3 hR3 HO3; have hx3 := HO3.ext (show Ext wx _ by (· repeat (first | (with_reducible assumption) | exact Ext.refl _ | refine Ext.alloc ?_ _ | refine Ext.drew ?_ | refine Ext.drewN ?_ _ | (apply Ext.snart; (with_reducible assumption))))); have hn3 := Nat.le_of_eq (congrArg List.length hL3); simp only [List.length_append, List.length_cons, List.length_nil, Nat.zero_add] at hn3; have HL3 := hid hL3; clear hL3; have c2 := Ext.cellS hx3 C2.out; have c3 := Ext.cellS hx3 C3.out; have HR3 := hid hR3; clear HO3 hR3)) | (go_at_call 60; go_must (first | (refine Calls.mono (RPutText_any _ s ?_) ?_; omega; rintro e w1 ⟨v1, rfl, ho1, hb1⟩; have hx1 := Ext.of hb1; have hr1 := rdB_own ho1; have HT1 := hid (OwnB.lowE ho1 (show Ext wx _ by (· repeat (first | (with_reducible assumption) | exact Ext.refl _ | refine Ext.alloc ?_ _ | refine Ext.drew ?_ | refine Ext.drewN ?_ _ | (apply Ext.snart; (with_reducible assumption)))))); have d1 := Ext.cellS (show Ext wx w1 by (· repeat (first | (with_reducible assumption) | exact Ext.refl _ | refine Ext.alloc ?_ _ | refine Ext.drew ?_ | refine Ext.drewN ?_ _ | (apply Ext.snart; (with_reducible assumption))))) C1.out; have d2 := Ext.cellS (show Ext wx w1 by (· repeat (first | (with_reducible assumption) | exact Ext.refl _ | refine Ext.alloc ?_ _ | refine Ext.drew ?_ | refine Ext.drewN ?_ _ | (apply Ext.snart; (with_reducible assumption))))) C2.out; have d3 := Ext.cellS (show Ext wx w1 by (· repeat (first | (with_reducible assumption) | exact Ext.refl _ | refine Ext.alloc ?_ _ | refine Ext.drew ?_ | refine Ext.drewN ?_ _ | (apply Ext.snart; (with_reducible assumption))))) C3.out; obtain ⟨a1, p1, rfl⟩ := ho1.slice; clear ho1 hb1) | (refine Calls.mono (RPutText_any _ k ?_) ?_; omega; rintro e w2 ⟨v2, rfl, ho2, hb2⟩; have hx2 := Ext.of hb2; have hr2 := rdB_own ho2; obtain ⟨a2, p2, rfl⟩ := ho2.slice; clear ho2 hb2))))
    have hq3 : L3.length ≤ 200 := by omega
    clear hx1 hx2 hr1 hr2 d1 d2 d3 HT1 c0 c1 C0 C1
    go_wp2_with fail
    refine Calls.mono (RPutUint_any _ n ?_) ?_
    · omega
    rintro e w4 ⟨v4, rfl, ho4, hb4⟩
    have hx4 := Ext.of hb4
    have hr4 := rdB_own ho4
    have c2 := Ext.cellS (show Ext wx w4 by (· repeat (first | (with_reducible assumption) | exact Ext.refl _ | refine Ext.alloc ?_ _ | refine Ext.drew ?_ | refine Ext.drewN ?_ _ | (apply Ext.snart; (with_reducible assumption))))) C2.out
    have c3 := Ext.cellS (show Ext wx w4 by (· repeat (first | (with_reducible assumption) | exact Ext.refl _ | refine Ext.alloc ?_ _ | refine Ext.drew ?_ | refine Ext.drewN ?_ _ | (apply Ext.snart; (with_reducible assumption))))) C3.out
    obtain ⟨a4, p4, rfl⟩ := ho4.slice
    clear ho4 hb4
    go_wp2_with (at_builtin; go_must (refine wl_row rfl _ _ rfl wx.heap.size [] _ L3 (RowSt.ext HR3.out ?_) rfl ?_ _ (putU n) (src_B (RdB.ext hr4 ?_)) rfl ?_ ?_ ?_; (· repeat (first | (with_reducible assumption) | exact Ext.refl _ | refine Ext.alloc ?_ _ | refine Ext.drew ?_ | refine Ext.drewN ?_ _ | (apply Ext.snart; (with_reducible assumption)))); (exact fun _ h => nomatch h); (· repeat (first | (with_reducible assumption) | exact Ext.refl _ | refine Ext.alloc ?_ _ | refine Ext.drew ?_ | refine Ext.drewN ?_ _ | (apply Ext.snart; (with_reducible assumption)))); (first | omega | (simp only [List.length_append, List.length_cons, List.length_nil]; omega) | omega); (apply Ext.size; (· repeat (first | (with_reducible assumption) | exact Ext.refl _ | refine Ext.alloc ?_ _ | refine Ext.drew ?_ | refine Ext.drewN ?_ _ | (apply Ext.snart; (with_reducible assumption))))); intro a5 q5 L5 w5 hL5 hR5 HO5; have hx5 := HO5.ext (show Ext wx _ by (· repeat (first | (with_reducible assumption) | exact Ext.refl _ | refine Ext.alloc ?_ _ | refine Ext.drew ?_ | refine Ext.drewN ?_ _ | (apply Ext.snart; (with_reducible assumption))))); have hn5 := Nat.le_of_eq (congrArg List.length hL5); simp only [List.length_append, List.length_cons, List.length_nil, Nat.zero_add] at hn5; have HL5 := hid hL5; clear hL5; have c2 := Ext.cellS hx5 C2.out; have c3 := Ext.cellS hx5 C3.out; have HR5 := hid hR5; clear HO5 hR5))
    refine Calls.mono (RPutUint_any _ es.length ?_) ?_
    · omega
    rintro e w6 ⟨v6, rfl, ho6, hb6⟩
    have hx6 := Ext.of hb6
    have hr6 := rdB_own ho6
    have c2 := Ext.cellS (show Ext wx w6 by (· repeat (first | (with_reducible assumption) | exact Ext.refl _ | refine Ext.alloc ?_ _ | refine Ext.drew ?_ | refine Ext.drewN ?_ _ | (apply Ext.snart; (with_reducible assumption))))) C2.out
    have c3 := Ext.cellS (show Ext wx w6 by (· repeat (first | (with_reducible assumption) | exact Ext.refl _ | refine Ext.alloc ?_ _ | refine Ext.drew ?_ | refine Ext.drewN ?_ _ | (apply Ext.snart; (with_reducible assumption))))) C3.out
    obtain ⟨a6, p6, rfl⟩ := ho6.slice
    clear ho6 hb6
    go_wp2_with (at_builtin; go_must (refine wl_row rfl _ _ rfl wx.heap.size [] _ L5 (RowSt.ext HR5.out ?_) rfl ?_ _ (putU es.length) (src_B (RdB.ext hr6 ?_)) rfl ?_ ?_ ?_; (· repeat (first | (with_reducible assumption) | exact Ext.refl _ | refine Ext.alloc ?_ _ | refine Ext.drew ?_ | refine Ext.drewN ?_ _ | (apply Ext.snart; (with_reducible assumption)))); (exact fun _ h => nomatch h); (· repeat (first | (with_reducible assumption) | exact Ext.refl _ | refine Ext.alloc ?_ _ | refine Ext.drew ?_ | refine Ext.drewN ?_ _ | (apply Ext.snart; (with_reducible assumption)))); (first | omega | (simp only [List.length_append, List.length_cons, List.length_nil]; omega) | omega); (apply Ext.size; (· repeat (first | (with_reducible assumption) | exact Ext.refl _ | refine Ext.alloc ?_ _ | refine Ext.drew ?_ | refine Ext.drewN ?_ _ | (apply Ext.snart; (with_reducible assumption))))); intro a7 q7 L7 w7 hL7 hR7 HO7; have hx7 := HO7.ext (show Ext wx _ by (· repeat (first | (with_reducible assumption) | exact Ext.refl _ | refine Ext.alloc ?_ _ | refine Ext.drew ?_ | refine Ext.drewN ?_ _ | (apply Ext.snart; (with_reducible assumption))))); have hn7 := Nat.le_of_eq (congrArg List.length hL7); simp only [List.length_append, List.length_cons, List.length_nil, Nat.zero_add] at hn7; have HL7 := hid hL7; clear hL7; have c2 := Ext.cellS hx7 C2.out; have c3 := Ext.cellS hx7 C3.out; have HR7 := hid hR7; clear HO7 hR7))
    have HHE := hid (show L7 = putHead (s, k, (n : Int), es) by rw [HL7.out, HL5.out, HL3.out]; simp [putHead, bl])
    have HHL := hid (putHead_le _ HHD.out)
    have hr4' := HHE.out
    subst hr4'
    have hhl := HHL.out
    have HHH := hid (show putBat (s, k, (n : Int), es) = putHead (s, k, (n : Int), es) ++ es.flatMap putEv from rfl)
    clear hx4 hx6 hr4 hr6 HL7 HL5 HL3 HR3 HR5 hn3 hn5 hn7 hx3 hx5 hq3
    generalize putHead (s, k, (n : Int), es) = HD at *
    obtain ⟨wm, rfl⟩ : ∃ wm : World, wm = w7 := ⟨_, rfl⟩
    have HX7 := hid hx7
    clear c2 c3 hx7
    go_loopw [5, 6] (fun u5 u6 wr => ∃ i : Nat, i ≤ es.length ∧ u6 = .int .i64 i ∧ RowSt wr wx.heap.size [] u5 (HD ++ (es.take i).flatMap putEv) ∧ (es.take i).all evOk = true ∧ Ext wx wr) (fun _ i _ => es.length - (intOf i).toNat)
    case atStart => exact ⟨0, by omega, rfl, by simpa using HR7.out, rfl, HX7.out⟩
    case round =>
      clear HR7 HX7
      obtain ⟨wq, rfl⟩ : ∃ wq : World, wq = wr := ⟨_, rfl⟩
      obtain ⟨i, hi, rfl, hown, hall, hx⟩ := hrel
      have hel := flat_le putEv 4586 (es.take i) fun e he => putEv_le e (List.all_eq_true.1 hall e he)
      rw [List.length_take, Nat.min_eq_left hi] at hel
      have hil : 4586 * i ≤ 4586 * 16 := Nat.mul_le_mul_left _ (by omega)
      have HALL := hid hall
      obtain ⟨a8, q8, rfl⟩ := OwnB.slice hown.own
      have HOWN := hid hown
      clear hown hall
      have c3 := Ext.cellS hx C3.out
      obtain ⟨X, hX⟩ : ∃ X, X = HD ++ (es.take i).flatMap putEv := ⟨_, rfl⟩
      have hXl : X.length ≤ 80000 := by rw [hX, List.length_append]; omega
      have HX := hid hX
      rw [← hX] at HOWN
      rw [← hX]
      clear hX hel hil
      by_cases hlt : i < es.length
      · obtain ⟨g, o, cap, fv, e, hg, -, d0, d1, d2, z1, z2, hfs⟩ := HE.out.atE i hlt
        have hxw := hxx.trans hx
        replace d0 := Ext.cellS hxw d0
        replace d1 := Ext.cellS hxw d1
        replace d2 := Ext.cellS hxw d2
        replace hg := Nat.lt_of_lt_of_le hg hxw.size
        simp only [Value.slice.injEq] at e
        obtain ⟨rfl, -, rfl⟩ := e
        have hmem := List.getElem_mem hlt
        have htk := List.take_succ_eq_append_getElem hlt
        cases hE : evOk es[i]
        · have hbad : es.all evOk = false := by
            cases hh : es.all evOk
            · rfl
            · rw [List.all_eq_true] at hh
              rw [hh _ hmem] at hE
              cases hE
          have H13 := hid (putB_evs HHD.out hbad)
          have HC := hid (show checkF es[i] = 13 by unfold checkF; rw [hE]; rfl)
          clear hE hmem htk hbad
          generalize es[i] = x at d0 d1 d2 z1 z2 hfs HC
          obtain ⟨t, m, fs⟩ := x
          dsimp only at d0 d1 d2 z1 z2 hfs
          obtain ⟨fa, fc, rfl, -⟩ := hfs.slice
          go_wp2_with ((go_at_call 24; go_must (refine (RCheck_any _ _ t m _ fs z1 z2 (hfs.ext (hxw.alloc _))).mono ?_; rw [HC.out]; rintro e w' ⟨rfl, hb'⟩; have hx' := Ext.of hb'; clear hb')))
          go_ret2
          exact RPutBEnd.bad H13.out (by decide) (hxx.trans (by (· repeat (first | (with_reducible assumption) | exact Ext.refl _ | refine Ext.alloc ?_ _ | refine Ext.drew ?_ | refine Ext.drewN ?_ _ | (apply Ext.snart; (with_reducible assumption))))))
        · have hEok := hE
          have HC := hid (show checkF es[i] = 0 by unfold checkF; rw [hE]; rfl)
          have HTK := hid (show (es.take (i + 1)).all evOk = true by rw [htk, List.all_append, HALL.out]; simp [hE])
          have HFE := hid (show (es.take (i + 1)).flatMap putEv = (es.take i).flatMap putEv ++ putEv es[i] by rw [htk, List.flatMap_append]; simp)
          clear hE hmem htk
          generalize es[i] = x at d0 d1 d2 z1 z2 hfs HC HFE hEok
          obtain ⟨t, m, fs⟩ := x
          dsimp only at d0 d1 d2 z1 z2 hfs
          obtain ⟨e1, e2⟩ := evOk_fields hEok
          obtain ⟨e3, e4, e5⟩ := evOk_head hEok
          dsimp only at e1 e2 e3 e4 e5
          have HEF := hid e2
          clear e2 hEok
          obtain ⟨m, rfl⟩ := Int.eq_ofNat_of_zero_le e4
          obtain ⟨fa, fc, rfl, hfc1, hfc2⟩ := hfs.slice
          have hpt := putT_le t.data.toList
          rw [show t.data.toList.length = t.size from by rw [Array.length_toList]; rfl] at hpt
          have hpm := putU_len m
          have hpf := putU_len fs.length
          have HFS := hid hfs
          have HZ2 := hid z2
          clear hfs z2
          go_wp2_with fail
          obtain ⟨we, hwe⟩ : ∃ we, we = wq.alloc (.cells #[.string t, .int .i64 (m : Int), .slice fa fs.length fc] 46) := ⟨_, rfl⟩
          rw [← hwe]
          have hxe : Ext wq we := by rw [hwe]; exact (Ext.refl _).alloc _
          have hre : we.heap[wq.heap.size]? = some (.cells #[.string t, .int .i64 (m : Int), .slice fa fs.length fc] 46 (0, 0)) := by rw [hwe]; exact heap_alloc_new _ _
          clear hwe
          have HRE := hid (RowSt.ext (HOWN.out.more (Nat.le_refl _)) hxe)
          have b0 : we.cell? ⟨wq.heap.size, 0, none⟩ = some (.string t) := (cell_of_row _ _ _ _ _ _ hre).trans rfl
          have b1 : we.cell? ⟨wq.heap.size, 1, none⟩ = some (.int .i64 (m : Int)) := (cell_of_row _ _ _ _ _ _ hre).trans rfl
          have b2 : we.cell? ⟨wq.heap.size, 2, none⟩ = some (.slice fa fs.length fc) := (cell_of_row _ _ _ _ _ _ hre).trans rfl
          generalize wq.heap.size = ge at b0 b1 b2 HRE ⊢
          clear hre d0 d1 d2 hg
          refine (RCheck_any _ _ t m _ fs z1 HZ2.out (HFS.out.ext (hxw.trans hxe))).mono ?_
          rw [HC.out]
          rintro e w10 ⟨rfl, hb10⟩
          have hx10 := Ext.of hb10
          clear hb10 c3
          have b0 := Ext.cellS hx10 b0
          have b1 := Ext.cellS hx10 b1
          have b2 := Ext.cellS hx10 b2
          go_wp2_with fail
          refine Calls.mono (RPutText_any _ t ?_) ?_
          · omega
          rintro e w11 ⟨v11, rfl, ho11, hb11⟩
          have hx11 := Ext.of hb11
          have hr11 := rdB_own ho11
          have b1 := Ext.cellS hx11 b1
          have b2 := Ext.cellS hx11 b2
          obtain ⟨a11, p11, rfl⟩ := ho11.slice
          clear ho11 hb11
          go_wp2_with (at_builtin; go_must (refine wl_row rfl _ _ rfl wx.heap.size [ge] _ X (RowSt.ext HRE.out ?_) rfl ?_ _ (putT t.data.toList) (src_B (RdB.ext hr11 ?_)) rfl ?_ ?_ ?_; (· repeat (first | (with_reducible assumption) | exact Ext.refl _ | refine Ext.alloc ?_ _ | refine Ext.drew ?_ | refine Ext.drewN ?_ _ | (apply Ext.snart; (with_reducible assumption)))); (exact in1 b2); (· repeat (first | (with_reducible assumption) | exact Ext.refl _ | refine Ext.alloc ?_ _ | refine Ext.drew ?_ | refine Ext.drewN ?_ _ | (apply Ext.snart; (with_reducible assumption)))); (first | omega | (simp only [List.length_append, List.length_cons, List.length_nil]; omega) | omega); (apply Ext.size; (· repeat (first | (with_reducible assumption) | exact Ext.refl _ | refine Ext.alloc ?_ _ | refine Ext.drew ?_ | refine Ext.drewN ?_ _ | (apply Ext.snart; (with_reducible assumption))))); intro a12 q12 L12 w12 hL12 hR12 HO12; have hx12 := HO12.ext (show Ext wx _ by (· repeat (first | (with_reducible assumption) | exact Ext.refl _ | refine Ext.alloc ?_ _ | refine Ext.drew ?_ | refine Ext.drewN ?_ _ | (apply Ext.snart; (with_reducible assumption))))); have hn12 := Nat.le_of_eq (congrArg List.length hL12); simp only [List.length_append, List.length_cons, List.length_nil, Nat.zero_add] at hn12; have HL12 := hid hL12; clear hL12; have b1 := HO12.cell b1 (memA _ _); have b2 := HO12.cell b2 (memA _ _); have HR12 := hid hR12; clear HO12 hR12))
          refine Calls.mono (RPutUint_any _ m ?_) ?_
          · omega
          rintro e w13 ⟨v13, rfl, ho13, hb13⟩
          have hx13 := Ext.of hb13
          have hr13 := rdB_own ho13
          have b2 := Ext.cellS hx13 b2
          obtain ⟨a13, p13, rfl⟩ := ho13.slice
          clear ho13 hb13
          go_wp2_with (at_builtin; go_must (refine wl_row rfl _ _ rfl wx.heap.size [ge] _ L12 (RowSt.ext HR12.out ?_) rfl ?_ _ (putU m) (src_B (RdB.ext hr13 ?_)) rfl ?_ ?_ ?_; (· repeat (first | (with_reducible assumption) | exact Ext.refl _ | refine Ext.alloc ?_ _ | refine Ext.drew ?_ | refine Ext.drewN ?_ _ | (apply Ext.snart; (with_reducible assumption)))); (exact in1 b2); (· repeat (first | (with_reducible assumption) | exact Ext.refl _ | refine Ext.alloc ?_ _ | refine Ext.drew ?_ | refine Ext.drewN ?_ _ | (apply Ext.snart; (with_reducible assumption)))); (first | omega | (simp only [List.length_append, List.length_cons, List.length_nil]; omega) | omega); (apply Ext.size; (· repeat (first | (with_reducible assumption) | exact Ext.refl _ | refine Ext.alloc ?_ _ | refine Ext.drew ?_ | refine Ext.drewN ?_ _ | (apply Ext.snart; (with_reducible assumption))))); intro a14 q14 L14 w14 hL14 hR14 HO14; have hx14 := HO14.ext (show Ext wx _ by (· repeat (first | (with_reducible assumption) | exact Ext.refl _ | refine Ext.alloc ?_ _ | refine Ext.drew ?_ | refine Ext.drewN ?_ _ | (apply Ext.snart; (with_reducible assumption))))); have hn14 := Nat.le_of_eq (congrArg List.length hL14); simp only [List.length_append, List.length_cons, List.length_nil, Nat.zero_add] at hn14; have HL14 := hid hL14; clear hL14; have b2 := HO14.cell b2 (memA _ _); have HR14 := hid hR14; clear HO14 hR14))
          refine Calls.mono (RPutUint_any _ fs.length ?_) ?_
          · omega
          rintro e w15 ⟨v15, rfl, ho15, hb15⟩
          have hx15 := Ext.of hb15
          have hr15 := rdB_own ho15
          have b2 := Ext.cellS hx15 b2
          obtain ⟨a15, p15, rfl⟩ := ho15.slice
          clear ho15 hb15
          go_wp2_with (at_builtin; go_must (refine wl_row rfl _ _ rfl wx.heap.size [ge] _ L14 (RowSt.ext HR14.out ?_) rfl ?_ _ (putU fs.length) (src_B (RdB.ext hr15 ?_)) rfl ?_ ?_ ?_; (· repeat (first | (with_reducible assumption) | exact Ext.refl _ | refine Ext.alloc ?_ _ | refine Ext.drew ?_ | refine Ext.drewN ?_ _ | (apply Ext.snart; (with_reducible assumption)))); (exact in1 b2); (· repeat (first | (with_reducible assumption) | exact Ext.refl _ | refine Ext.alloc ?_ _ | refine Ext.drew ?_ | refine Ext.drewN ?_ _ | (apply Ext.snart; (with_reducible assumption)))); (first | omega | (simp only [List.length_append, List.length_cons, List.length_nil]; omega) | omega); (apply Ext.size; (· repeat (first | (with_reducible assumption) | exact Ext.refl _ | refine Ext.alloc ?_ _ | refine Ext.drew ?_ | refine Ext.drewN ?_ _ | (apply Ext.snart; (with_reducible assumption))))); intro a16 q16 L16 w16 hL16 hR16 HO16; have hx16 := HO16.ext (show Ext wx _ by (· repeat (first | (with_reducible assumption) | exact Ext.refl _ | refine Ext.alloc ?_ _ | refine Ext.drew ?_ | refine Ext.drewN ?_ _ | (apply Ext.snart; (with_reducible assumption))))); have hn16 := Nat.le_of_eq (congrArg List.length hL16); simp only [List.length_append, List.length_cons, List.length_nil, Nat.zero_add] at hn16; have HL16 := hid hL16; clear hL16; have b2 := HO16.cell b2 (memA _ _); have HR16 := hid hR16; clear HO16 hR16))
          have hl16 : L16.length ≤ 80200 := by omega
          have H16 := hid (show L16 = X ++ (putT (bl t) ++ (putU m ++ putU fs.length)) by rw [HL16.out, HL14.out, HL12.out]; simp [bl])
          have HX16 := hid hx16
          have B2 := hid b2
          clear HL16 HL14 HL12 HR14 HR12 HRE hn16 hn14 hn12 hx11 hx13 hx15 hr11 hr13 hr15 hx12 hx14 hx16 hx10 hxe b1 b2 hpt hpm hpf
          obtain ⟨wo, rfl⟩ : ∃ wo : World, wo = w16 := ⟨_, rfl⟩
          
          go_loopw [5, 8] (fun u5 u8 wr => ∃ j : Nat, j ≤ fs.length ∧ u8 = .int .i64 j ∧ RowSt wr wx.heap.size [ge] u5 (L16 ++ (fs.take j).flatMap putFld) ∧ wr.cell? ⟨ge, 2, none⟩ = some (.slice fa fs.length fc) ∧ Ext wx wr) (fun _ j _ => fs.length - (intOf j).toNat)
          case atStart => exact ⟨0, by omega, rfl, by simpa using HR16.out, B2.out, HX16.out⟩
          case round =>
            clear HR16 HX16 B2 hx b2
            obtain ⟨wi, rfl⟩ : ∃ wi : World, wi = wr := ⟨_, rfl⟩
            obtain ⟨j, hj, rfl, hown, b2, hx⟩ := hrel
            have hfl := flat_le putFld 281 (fs.take j) fun f hf => putFld_le f (HEF.out f (List.mem_of_mem_take hf))
            rw [List.length_take, Nat.min_eq_left hj] at hfl
            have hjl : 281 * j ≤ 281 * 16 := Nat.mul_le_mul_left _ (by omega)
            obtain ⟨a18, q18, rfl⟩ := OwnB.slice hown.own
            have HOW2 := hid hown
            clear hown
            obtain ⟨Z, hZ⟩ : ∃ Z, Z = L16 ++ (fs.take j).flatMap putFld := ⟨_, rfl⟩
            have hZl : Z.length ≤ 90000 := by rw [hZ, List.length_append]; omega
            have HZ := hid hZ
            rw [← hZ] at HOW2
            rw [← hZ]
            clear hZ hfl hjl
            by_cases hlt2 : j < fs.length
            · obtain ⟨g', o', cap', e, hg', -, d0, d1, d2, d3, s1, s2, s3⟩ := HFS.out.atF j hlt2
              have hxw := hxx.trans hx
              replace d0 := Ext.cellS hxw d0
              replace d1 := Ext.cellS hxw d1
              replace d2 := Ext.cellS hxw d2
              replace d3 := Ext.cellS hxw d3
              replace hg' := Nat.lt_of_lt_of_le hg' hxw.size
              simp only [Value.slice.injEq] at e
              obtain ⟨rfl, -, rfl⟩ := e
              have htk := List.take_succ_eq_append_getElem hlt2
              have hfok := HEF.out _ (List.getElem_mem hlt2)
              have HFF := hid (show (fs.take (j + 1)).flatMap putFld = (fs.take j).flatMap putFld ++ putFld fs[j] by rw [htk, List.flatMap_append]; simp)
              clear htk
              generalize fs[j] = f at d0 d1 d2 d3 s1 s2 s3 HFF hfok
              obtain ⟨fn, ft, fi, fx⟩ := f
              have hfi1 := s2.1
              have hfi2 := s2.2
              dsimp only at d0 d1 d2 d3 s1 s3 hfi1 hfi2
              rw [fldOk_eq] at hfok
              unfold nameOk at hfok
              clear s2
              have hpn2 := putT_le fn.data.toList
              rw [show fn.data.toList.length = fn.size from by rw [Array.length_toList]; rfl] at hpn2
              have hpx := putT_le fx.data.toList
              rw [show fx.data.toList.length = fx.size from by rw [Array.length_toList]; rfl] at hpx
              have hpi : (putI fi).length ≤ 10 := (putU_len (zig fi)).2
              cases ft
              · simp only [Bool.and_eq_true, decide_eq_true_eq, Bool.false_eq_true, if_false] at hfok
                obtain ⟨⟨f1, f2⟩, f3⟩ := hfok
                have HPF := hid (show putFld (fn, false, fi, fx) = putT (bl fn) ++ 0 :: putI fi by unfold putFld; rfl)
                clear f3
                go_wp2_with fail
                obtain ⟨we, hwe⟩ : ∃ we, we = wi.alloc (.cells #[.string fn, .bool false, .int .i64 fi, .string fx] 108) := ⟨_, rfl⟩
                rw [← hwe]
                have hxe : Ext wi we := by rw [hwe]; exact (Ext.refl _).alloc _
                have hre : we.heap[wi.heap.size]? = some (.cells #[.string fn, .bool false, .int .i64 fi, .string fx] 108 (0, 0)) := by rw [hwe]; exact heap_alloc_new _ _
                clear hwe
                have HRE := hid (RowSt.ext (HOW2.out.more (Nat.le_refl _)) hxe)
                have k1 : we.cell? ⟨wi.heap.size, 1, none⟩ = some (.bool false) := (cell_of_row _ _ _ _ _ _ hre).trans rfl
                have k3 : we.cell? ⟨wi.heap.size, 2, none⟩ = some (.int .i64 fi) := (cell_of_row _ _ _ _ _ _ hre).trans rfl
                have b2 := Ext.cellS hxe b2
                generalize wi.heap.size = gf at k1 k3 HRE ⊢
                clear hre d0 d1 d2 d3 hg'
                refine Calls.mono (RPutText_any _ fn ?_) ?_
                · omega
                rintro e w21 ⟨v21, rfl, ho21, hb21⟩
                have hx21 := Ext.of hb21
                have hr21 := rdB_own ho21
                have k1 := Ext.cellS hx21 k1
                have k3 := Ext.cellS hx21 k3
                have b2 := Ext.cellS hx21 b2
                obtain ⟨a21, p21, rfl⟩ := ho21.slice
                clear ho21 hb21
                go_wp2_with (at_builtin; go_must (refine wl_row rfl _ _ rfl wx.heap.size [gf, ge] _ Z (RowSt.ext HRE.out ?_) rfl ?_ _ (putT fn.data.toList) (src_B (RdB.ext hr21 ?_)) rfl ?_ ?_ ?_; (· repeat (first | (with_reducible assumption) | exact Ext.refl _ | refine Ext.alloc ?_ _ | refine Ext.drew ?_ | refine Ext.drewN ?_ _ | (apply Ext.snart; (with_reducible assumption)))); (exact in2 k3 b2); (· repeat (first | (with_reducible assumption) | exact Ext.refl _ | refine Ext.alloc ?_ _ | refine Ext.drew ?_ | refine Ext.drewN ?_ _ | (apply Ext.snart; (with_reducible assumption)))); (first | omega | (simp only [List.length_append, List.length_cons, List.length_nil]; omega) | omega); (apply Ext.size; (· repeat (first | (with_reducible assumption) | exact Ext.refl _ | refine Ext.alloc ?_ _ | refine Ext.drew ?_ | refine Ext.drewN ?_ _ | (apply Ext.snart; (with_reducible assumption))))); intro a22 q22 L22 w22 hL22 hR22 HO22; have hx22 := HO22.ext (show Ext wx _ by (· repeat (first | (with_reducible assumption) | exact Ext.refl _ | refine Ext.alloc ?_ _ | refine Ext.drew ?_ | refine Ext.drewN ?_ _ | (apply Ext.snart; (with_reducible assumption))))); have hn22 := Nat.le_of_eq (congrArg List.length hL22); simp only [List.length_append, List.length_cons, List.length_nil, Nat.zero_add] at hn22; have HL22 := hid hL22; clear hL22; have k1 := HO22.cell k1 (memA _ _); have k3 := HO22.cell k3 (memA _ _); have b2 := HO22.cell b2 (memB _ _ _); have HR22 := hid hR22; clear HO22 hR22))
                have hl22 : L22.length ≤ 90100 := by omega
                have K3 := hid k3
                have B2 := hid b2
                clear k1 hn22 hx21 hr21 HRE hxe
                go_region_held3 (fun w' => w'.cell? ⟨gf, 2, none⟩ = some (.int .i64 fi)) (first | (with_reducible assumption) | (refine Ext.cellS (a := w22) ?_ K3.out; (· repeat (first | (with_reducible assumption) | exact Ext.refl _ | refine Ext.alloc ?_ _ | refine Ext.drew ?_ | refine Ext.drewN ?_ _ | (apply Ext.snart; (with_reducible assumption))))) | (refine Ext.cellS (a := w24) ?_ k24; (· repeat (first | (with_reducible assumption) | exact Ext.refl _ | refine Ext.alloc ?_ _ | refine Ext.drew ?_ | refine Ext.drewN ?_ _ | (apply Ext.snart; (with_reducible assumption))))) | (refine Ext.cellS (a := w26) ?_ k26; (· repeat (first | (with_reducible assumption) | exact Ext.refl _ | refine Ext.alloc ?_ _ | refine Ext.drew ?_ | refine Ext.drewN ?_ _ | (apply Ext.snart; (with_reducible assumption)))))) (first | ((with_reducible refine at_step_append ?_); go_must (first | (refine step_row rfl _ _ rfl wx.heap.size [gf, ge] _ L22 (RowSt.ext HR22.out ?_) rfl ?_ (.slice (some ⟨w22.heap.size, 0, none⟩) 1 1) [0] (src_one_d w22 0 0 rfl) rfl ?_ ?_ ?_; (· repeat (first | (with_reducible assumption) | exact Ext.refl _ | refine Ext.alloc ?_ _ | refine Ext.drew ?_ | refine Ext.drewN ?_ _ | (apply Ext.snart; (with_reducible assumption)))); (intro x hx; refine Nat.lt_of_lt_of_le (in2 K3.out B2.out x hx) (Ext.size ?_); (· repeat (first | (with_reducible assumption) | exact Ext.refl _ | refine Ext.alloc ?_ _ | refine Ext.drew ?_ | refine Ext.drewN ?_ _ | (apply Ext.snart; (with_reducible assumption))))); (first | omega | (simp only [List.length_append, List.length_cons, List.length_nil]; omega) | omega); (apply Ext.size; (· repeat (first | (with_reducible assumption) | exact Ext.refl _ | refine Ext.alloc ?_ _ | refine Ext.drew ?_ | refine Ext.drewN ?_ _ | (apply Ext.snart; (with_reducible assumption))))); intro a24 q24 L24 w24 hL24 hR24 HO24; have hx24 := HO24.ext (show Ext wx _ by (· repeat (first | (with_reducible assumption) | exact Ext.refl _ | refine Ext.alloc ?_ _ | refine Ext.drew ?_ | refine Ext.drewN ?_ _ | (apply Ext.snart; (with_reducible assumption))))); have hn24 := Nat.le_of_eq (congrArg List.length hL24); simp only [List.length_append, List.length_cons, List.length_nil, Nat.zero_add] at hn24; have HL24 := hid hL24; clear hL24; have k24 := HO24.cell (Ext.cellS (a := w22) (by (· repeat (first | (with_reducible assumption) | exact Ext.refl _ | refine Ext.alloc ?_ _ | refine Ext.drew ?_ | refine Ext.drewN ?_ _ | (apply Ext.snart; (with_reducible assumption))))) K3.out) (memA _ _); have b24 := HO24.cell (Ext.cellS (a := w22) (by (· repeat (first | (with_reducible assumption) | exact Ext.refl _ | refine Ext.alloc ?_ _ | refine Ext.drew ?_ | refine Ext.drewN ?_ _ | (apply Ext.snart; (with_reducible assumption))))) B2.out) (memB _ _ _); have HR24 := hid hR24; clear HO24 hR24) | (refine step_row rfl _ _ rfl wx.heap.size [gf, ge] _ L24 (RowSt.ext HR24.out ?_) rfl ?_ _ (putI fi) (src_B (RdB.ext hr25 ?_)) rfl ?_ ?_ ?_; (· repeat (first | (with_reducible assumption) | exact Ext.refl _ | refine Ext.alloc ?_ _ | refine Ext.drew ?_ | refine Ext.drewN ?_ _ | (apply Ext.snart; (with_reducible assumption)))); (intro x hx; refine Nat.lt_of_lt_of_le (in2 k24 b24 x hx) (Ext.size ?_); (· repeat (first | (with_reducible assumption) | exact Ext.refl _ | refine Ext.alloc ?_ _ | refine Ext.drew ?_ | refine Ext.drewN ?_ _ | (apply Ext.snart; (with_reducible assumption))))); (· repeat (first | (with_reducible assumption) | exact Ext.refl _ | refine Ext.alloc ?_ _ | refine Ext.drew ?_ | refine Ext.drewN ?_ _ | (apply Ext.snart; (with_reducible assumption)))); (first | omega | (simp only [List.length_append, List.length_cons, List.length_nil]; omega) | omega); (apply Ext.size; (· repeat (first | (with_reducible assumption) | exact Ext.refl _ | refine Ext.alloc ?_ _ | refine Ext.drew ?_ | refine Ext.drewN ?_ _ | (apply Ext.snart; (with_reducible assumption))))); intro a26 q26 L26 w26 hL26 hR26 HO26; have hx26 := HO26.ext (show Ext wx _ by (· repeat (first | (with_reducible assumption) | exact Ext.refl _ | refine Ext.alloc ?_ _ | refine Ext.drew ?_ | refine Ext.drewN ?_ _ | (apply Ext.snart; (with_reducible assumption))))); have hn26 := Nat.le_of_eq (congrArg List.length hL26); simp only [List.length_append, List.length_cons, List.length_nil, Nat.zero_add] at hn26; have HL26 := hid hL26; clear hL26; have k26 := HO26.cell (Ext.cellS (a := w24) (by (· repeat (first | (with_reducible assumption) | exact Ext.refl _ | refine Ext.alloc ?_ _ | refine Ext.drew ?_ | refine Ext.drewN ?_ _ | (apply Ext.snart; (with_reducible assumption))))) k24) (memA _ _); have b26 := HO26.cell (Ext.cellS (a := w24) (by (· repeat (first | (with_reducible assumption) | exact Ext.refl _ | refine Ext.alloc ?_ _ | refine Ext.drew ?_ | refine Ext.drewN ?_ _ | (apply Ext.snart; (with_reducible assumption))))) b24) (memB _ _ _); have HR26 := hid hR26; clear HO26 hR26))) | (go_at_call 62; go_must (refine Calls.mono (RPutInt_any _ fi ?_ ?_) ?_; omega; omega; rintro e w25 ⟨v25, rfl, ho25, hb25⟩; have hx25 := Ext.of hb25; have hr25 := rdB_own ho25; obtain ⟨a25, p25, rfl⟩ := ho25.slice; clear ho25 hb25)))
                all_goals
                  go_wp2_with fail
                  go_roundw
                  case rel => exact ⟨j + 1, by omega, by go_num, by rw [HFF.out, HPF.out, ← List.append_assoc, ← HZ.out]; rw [show Z ++ (putT (bl fn) ++ 0 :: putI fi) = L26 by rw [HL26.out, HL24.out, HL22.out]; simp [bl]]; exact HR26.out.less (fun x h => List.mem_cons_of_mem _ h), b26, hx26⟩
                  case measure => simp [intOf]; omega
              · simp only [Bool.and_eq_true, decide_eq_true_eq, if_true] at hfok
                obtain ⟨⟨f1, f2⟩, f3, f4⟩ := hfok
                have HPF := hid (show putFld (fn, true, fi, fx) = putT (bl fn) ++ 1 :: putT (bl fx) by unfold putFld; rfl)
                clear f4
                go_wp2_with fail
                obtain ⟨we, hwe⟩ : ∃ we, we = wi.alloc (.cells #[.string fn, .bool true, .int .i64 fi, .string fx] 108) := ⟨_, rfl⟩
                rw [← hwe]
                have hxe : Ext wi we := by rw [hwe]; exact (Ext.refl _).alloc _
                have hre : we.heap[wi.heap.size]? = some (.cells #[.string fn, .bool true, .int .i64 fi, .string fx] 108 (0, 0)) := by rw [hwe]; exact heap_alloc_new _ _
                clear hwe
                have HRE := hid (RowSt.ext (HOW2.out.more (Nat.le_refl _)) hxe)
                have k1 : we.cell? ⟨wi.heap.size, 1, none⟩ = some (.bool true) := (cell_of_row _ _ _ _ _ _ hre).trans rfl
                have k3 : we.cell? ⟨wi.heap.size, 3, none⟩ = some (.string fx) := (cell_of_row _ _ _ _ _ _ hre).trans rfl
                have b2 := Ext.cellS hxe b2
                generalize wi.heap.size = gf at k1 k3 HRE ⊢
                clear hre d0 d1 d2 d3 hg'
                refine Calls.mono (RPutText_any _ fn ?_) ?_
                · omega
                rintro e w21 ⟨v21, rfl, ho21, hb21⟩
                have hx21 := Ext.of hb21
                have hr21 := rdB_own ho21
                have k1 := Ext.cellS hx21 k1
                have k3 := Ext.cellS hx21 k3
                have b2 := Ext.cellS hx21 b2
                obtain ⟨a21, p21, rfl⟩ := ho21.slice
                clear ho21 hb21
                go_wp2_with (at_builtin; go_must (refine wl_row rfl _ _ rfl wx.heap.size [gf, ge] _ Z (RowSt.ext HRE.out ?_) rfl ?_ _ (putT fn.data.toList) (src_B (RdB.ext hr21 ?_)) rfl ?_ ?_ ?_; (· repeat (first | (with_reducible assumption) | exact Ext.refl _ | refine Ext.alloc ?_ _ | refine Ext.drew ?_ | refine Ext.drewN ?_ _ | (apply Ext.snart; (with_reducible assumption)))); (exact in2 k3 b2); (· repeat (first | (with_reducible assumption) | exact Ext.refl _ | refine Ext.alloc ?_ _ | refine Ext.drew ?_ | refine Ext.drewN ?_ _ | (apply Ext.snart; (with_reducible assumption)))); (first | omega | (simp only [List.length_append, List.length_cons, List.length_nil]; omega) | omega); (apply Ext.size; (· repeat (first | (with_reducible assumption) | exact Ext.refl _ | refine Ext.alloc ?_ _ | refine Ext.drew ?_ | refine Ext.drewN ?_ _ | (apply Ext.snart; (with_reducible assumption))))); intro a22 q22 L22 w22 hL22 hR22 HO22; have hx22 := HO22.ext (show Ext wx _ by (· repeat (first | (with_reducible assumption) | exact Ext.refl _ | refine Ext.alloc ?_ _ | refine Ext.drew ?_ | refine Ext.drewN ?_ _ | (apply Ext.snart; (with_reducible assumption))))); have hn22 := Nat.le_of_eq (congrArg List.length hL22); simp only [List.length_append, List.length_cons, List.length_nil, Nat.zero_add] at hn22; have HL22 := hid hL22; clear hL22; have k1 := HO22.cell k1 (memA _ _); have k3 := HO22.cell k3 (memA _ _); have b2 := HO22.cell b2 (memB _ _ _); have HR22 := hid hR22; clear HO22 hR22))
                have hl22 : L22.length ≤ 90100 := by omega
                have K3 := hid k3
                have B2 := hid b2
                clear k1 hn22 hx21 hr21 HRE hxe
                go_region_held3 (fun w' => w'.cell? ⟨gf, 3, none⟩ = some (.string fx)) (first | (with_reducible assumption) | (refine Ext.cellS (a := w22) ?_ K3.out; (· repeat (first | (with_reducible assumption) | exact Ext.refl _ | refine Ext.alloc ?_ _ | refine Ext.drew ?_ | refine Ext.drewN ?_ _ | (apply Ext.snart; (with_reducible assumption))))) | (refine Ext.cellS (a := w24) ?_ k24; (· repeat (first | (with_reducible assumption) | exact Ext.refl _ | refine Ext.alloc ?_ _ | refine Ext.drew ?_ | refine Ext.drewN ?_ _ | (apply Ext.snart; (with_reducible assumption))))) | (refine Ext.cellS (a := w26) ?_ k26; (· repeat (first | (with_reducible assumption) | exact Ext.refl _ | refine Ext.alloc ?_ _ | refine Ext.drew ?_ | refine Ext.drewN ?_ _ | (apply Ext.snart; (with_reducible assumption)))))) (first | ((with_reducible refine at_step_append ?_); go_must (first | (refine step_row rfl _ _ rfl wx.heap.size [gf, ge] _ L22 (RowSt.ext HR22.out ?_) rfl ?_ (.slice (some ⟨w22.heap.size, 0, none⟩) 1 1) [1] (src_one_d w22 1 1 rfl) rfl ?_ ?_ ?_; (· repeat (first | (with_reducible assumption) | exact Ext.refl _ | refine Ext.alloc ?_ _ | refine Ext.drew ?_ | refine Ext.drewN ?_ _ | (apply Ext.snart; (with_reducible assumption)))); (intro x hx; refine Nat.lt_of_lt_of_le (in2 K3.out B2.out x hx) (Ext.size ?_); (· repeat (first | (with_reducible assumption) | exact Ext.refl _ | refine Ext.alloc ?_ _ | refine Ext.drew ?_ | refine Ext.drewN ?_ _ | (apply Ext.snart; (with_reducible assumption))))); (first | omega | (simp only [List.length_append, List.length_cons, List.length_nil]; omega) | omega); (apply Ext.size; (· repeat (first | (with_reducible assumption) | exact Ext.refl _ | refine Ext.alloc ?_ _ | refine Ext.drew ?_ | refine Ext.drewN ?_ _ | (apply Ext.snart; (with_reducible assumption))))); intro a24 q24 L24 w24 hL24 hR24 HO24; have hx24 := HO24.ext (show Ext wx _ by (· repeat (first | (with_reducible assumption) | exact Ext.refl _ | refine Ext.alloc ?_ _ | refine Ext.drew ?_ | refine Ext.drewN ?_ _ | (apply Ext.snart; (with_reducible assumption))))); have hn24 := Nat.le_of_eq (congrArg List.length hL24); simp only [List.length_append, List.length_cons, List.length_nil, Nat.zero_add] at hn24; have HL24 := hid hL24; clear hL24; have k24 := HO24.cell (Ext.cellS (a := w22) (by (· repeat (first | (with_reducible assumption) | exact Ext.refl _ | refine Ext.alloc ?_ _ | refine Ext.drew ?_ | refine Ext.drewN ?_ _ | (apply Ext.snart; (with_reducible assumption))))) K3.out) (memA _ _); have b24 := HO24.cell (Ext.cellS (a := w22) (by (· repeat (first | (with_reducible assumption) | exact Ext.refl _ | refine Ext.alloc ?_ _ | refine Ext.drew ?_ | refine Ext.drewN ?_ _ | (apply Ext.snart; (with_reducible assumption))))) B2.out) (memB _ _ _); have HR24 := hid hR24; clear HO24 hR24) | (refine step_row rfl _ _ rfl wx.heap.size [gf, ge] _ L24 (RowSt.ext HR24.out ?_) rfl ?_ _ (putT fx.data.toList) (src_B (RdB.ext hr25 ?_)) rfl ?_ ?_ ?_; (· repeat (first | (with_reducible assumption) | exact Ext.refl _ | refine Ext.alloc ?_ _ | refine Ext.drew ?_ | refine Ext.drewN ?_ _ | (apply Ext.snart; (with_reducible assumption)))); (intro x hx; refine Nat.lt_of_lt_of_le (in2 k24 b24 x hx) (Ext.size ?_); (· repeat (first | (with_reducible assumption) | exact Ext.refl _ | refine Ext.alloc ?_ _ | refine Ext.drew ?_ | refine Ext.drewN ?_ _ | (apply Ext.snart; (with_reducible assumption))))); (· repeat (first | (with_reducible assumption) | exact Ext.refl _ | refine Ext.alloc ?_ _ | refine Ext.drew ?_ | refine Ext.drewN ?_ _ | (apply Ext.snart; (with_reducible assumption)))); (first | omega | (simp only [List.length_append, List.length_cons, List.length_nil]; omega) | omega); (apply Ext.size; (· repeat (first | (with_reducible assumption) | exact Ext.refl _ | refine Ext.alloc ?_ _ | refine Ext.drew ?_ | refine Ext.drewN ?_ _ | (apply Ext.snart; (with_reducible assumption))))); intro a26 q26 L26 w26 hL26 hR26 HO26; have hx26 := HO26.ext (show Ext wx _ by (· repeat (first | (with_reducible assumption) | exact Ext.refl _ | refine Ext.alloc ?_ _ | refine Ext.drew ?_ | refine Ext.drewN ?_ _ | (apply Ext.snart; (with_reducible assumption))))); have hn26 := Nat.le_of_eq (congrArg List.length hL26); simp only [List.length_append, List.length_cons, List.length_nil, Nat.zero_add] at hn26; have HL26 := hid hL26; clear hL26; have k26 := HO26.cell (Ext.cellS (a := w24) (by (· repeat (first | (with_reducible assumption) | exact Ext.refl _ | refine Ext.alloc ?_ _ | refine Ext.drew ?_ | refine Ext.drewN ?_ _ | (apply Ext.snart; (with_reducible assumption))))) k24) (memA _ _); have b26 := HO26.cell (Ext.cellS (a := w24) (by (· repeat (first | (with_reducible assumption) | exact Ext.refl _ | refine Ext.alloc ?_ _ | refine Ext.drew ?_ | refine Ext.drewN ?_ _ | (apply Ext.snart; (with_reducible assumption))))) b24) (memB _ _ _); have HR26 := hid hR26; clear HO26 hR26))) | (go_at_call 60; go_must (refine Calls.mono (RPutText_any _ fx ?_) ?_; omega; rintro e w25 ⟨v25, rfl, ho25, hb25⟩; have hx25 := Ext.of hb25; have hr25 := rdB_own ho25; obtain ⟨a25, p25, rfl⟩ := ho25.slice; clear ho25 hb25)))
                all_goals
                  go_wp2_with fail
                  go_roundw
                  case rel => exact ⟨j + 1, by omega, by go_num, by rw [HFF.out, HPF.out, ← List.append_assoc, ← HZ.out]; rw [show Z ++ (putT (bl fn) ++ 1 :: putT (bl fx)) = L26 by rw [HL26.out, HL24.out, HL22.out]; simp [bl]]; exact HR26.out.less (fun x h => List.mem_cons_of_mem _ h), b26, hx26⟩
                  case measure => simp [intOf]; omega
            · obtain rfl : j = fs.length := by omega
              rw [List.take_length] at HZ
              have hPE := hid (show putEv (t, (m : Int), fs) = putT (bl t) ++ (putU m ++ (putU fs.length ++ fs.flatMap putFld)) from rfl)
              go_wp2_with fail
              go_roundw
              case rel => exact ⟨i + 1, by omega, by go_num, by rw [HFE.out, hPE.out, ← List.append_assoc, ← HX.out]; rw [show X ++ (putT (bl t) ++ (putU m ++ (putU fs.length ++ fs.flatMap putFld))) = Z by rw [HZ.out, H16.out]; simp]; exact HOW2.out.less (fun x h => nomatch h), HTK.out, hx⟩
              case measure => simp [intOf]; omega
      · obtain rfl : i = es.length := by omega
        rw [List.take_length] at HALL HX
        have HLONG := hid (@putB_long _ HHD.out HALL.out)
        have HGOOD := hid (@putB_good _ HHD.out HALL.out)
        have HXB := hid (show X = putBat (s, k, (n : Int), es) by rw [HX.out, HHH.out])
        rw [← HXB.out] at HLONG HGOOD
        have hxe := hxx.trans hx
        by_cases hlong : 2000 < X.length
        · have H12 := hid (HLONG.out hlong)
          go_wp2_with fail
          go_ret2
          exact RPutBEnd.bad H12.out (by decide) hxe
        · have H0 := hid (HGOOD.out hlong)
          go_wp2_with fail
          go_ret2
          exact ⟨fun _ => ⟨_, rfl, by rw [H0.out]; exact OwnB.low HOWN.out.own hxx.size⟩, fun h => absurd (by rw [H0.out]) h, hxe⟩
end Go.Proofs.Ythobhkmphjnlaaa
