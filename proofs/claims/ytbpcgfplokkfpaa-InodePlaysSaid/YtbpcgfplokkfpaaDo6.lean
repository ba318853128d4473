/- The inode laws' do: the calls that ask alone (At, Need, all that is asked; none). -/
import Derived.Test.YtbpcgfplokkfpaaRMore
import Derived.Test.YtbpcgfplokkfpaaAsked6
import Derived.Test.YtbpcgfplokkfpaaCallI
namespace Go.Proofs.Ytbpcgfplokkfpaa
open Go.RowKit
set_option linter.unusedVariables false
set_option linter.unusedSimpArgs false

def atF (s n : Int) (L : List Int) : Int × Int × Int := if n < 0 ∨ s ≤ n then (0, 0, 60) else (L[(n / 512).toNat]?.getD 0, n % 512, 0)
theorem atF_ex {s n : Int} {L : List Int} (ho : NodeOk s L) (h : ¬ (n < 0 ∨ s ≤ n)) : L[(n / 512).toNat]? = some (L[(n / 512).toNat]?.getD 0) := by
  have hl := ho.len
  unfold nb at hl
  have h1 := ho.hi
  rw [List.getElem?_eq_getElem (show (n / 512).toNat < L.length by omega)]
  rfl
theorem nodeAt_all (w : World) (g : Nat) (q : Option Nat) (s n : Int) (L : List Int) (h : NodeAt w g q s L) (ho : NodeOk s L) (hn : -9223372036854775808 ≤ n ∧ n ≤ 9223372036854775807) :
    Calls Try.prog 19 #[.pointer (some ⟨g, 0, none⟩), .int .i64 n] w fun e w' => e = .returned (.tuple #[.int .i64 (atF s n L).1, .int .i64 (atF s n L).2.1, .int .i64 (atF s n L).2.2]) ∧ Below w.heap.size w w' := by
  unfold atF
  by_cases hb : n < 0 ∨ s ≤ n
  · rw [if_pos hb]
    exact nodeAt_bad w g q s n L h ⟨ho.lo, ho.hi⟩ hn hb
  · rw [if_neg hb]
    exact nodeAt_any w g q s n _ L h ho (by omega) (by omega) (atF_ex ho hb)
theorem rAt_all (w : World) (g : Nat) (q : Option Nat) (s n : Int) (L : List Int) (h : RNodeAt w g q s L) (ho : NodeOk s L) (hn : -9223372036854775808 ≤ n ∧ n ≤ 9223372036854775807) :
    Calls Try.prog 71 #[.pointer (some ⟨g, 0, none⟩), .int .i64 n] w fun e w' => e = .returned (.tuple #[.int .i64 (atF s n L).1, .int .i64 (atF s n L).2.1, .int .i64 (atF s n L).2.2]) ∧ Below w.heap.size w w' := by
  unfold atF
  by_cases hb : n < 0 ∨ s ≤ n
  · rw [if_pos hb]
    exact rAt_bad w g q s n L h ⟨ho.lo, ho.hi⟩ hn hb
  · rw [if_neg hb]
    exact rAt_any w g q s n _ L h ho (by omega) (by omega) (atF_ex ho hb)

/-- a node of the code's and one of the document's that stand alike, apart in memory -/
structure Pair6 (w : World) (g g' : Nat) (q q' : Option Nat) (s : Int) (L : List Int) : Prop where
  node : NodeAt w g q s L
  rnode : RNodeAt w g' q' s L
  ok : NodeOk s L
  ne : g ≠ g'
  qne : q ≠ some g'
  qne' : q' ≠ some g
theorem Pair6.ext {w w' : World} {g g' : Nat} {q q' : Option Nat} {s : Int} {L : List Int} (h : Pair6 w g g' q q' s L) (hx : Ext w w') : Pair6 w' g g' q q' s L := ⟨h.node.ext hx, h.rnode.ext hx, h.ok, h.ne, h.qne, h.qne'⟩
def Do6End (w : World) (g g' : Nat) (q q' : Option Nat) (e : Ending) (w' : World) : Prop :=
  e = .returned (.bool true) ∧ ∃ q1 q1' s1 L1, Pair6 w' g g' q1 q1' s1 L1 ∧ Keep (fun k => k ≠ g ∧ k ≠ g') w w' ∧ (q1 = q ∨ ∀ k, q1 = some k → w.heap.size ≤ k) ∧ (q1' = q' ∨ ∀ k, q1' = some k → w.heap.size ≤ k)
theorem Do6End.same {w w' : World} {g g' : Nat} {q q' : Option Nat} {s : Int} {L : List Int} (h : Pair6 w g g' q q' s L) (hx : Ext w w') : Do6End w g g' q q' (.returned (.bool true)) w' :=
  ⟨rfl, q, q', s, L, h.ext hx, hx.keep _, .inl rfl, .inl rfl⟩

section
variable (w : World) (g g' : Nat) (q q' : Option Nat) (s n : Int) (L : List Int) (lv : Value) (two : Bool)

set_option maxRecDepth 100000 in
set_option maxHeartbeats 1000000 in
theorem do6_at (h : Pair6 w g g' q q' s L) (hn : -9223372036854775808 ≤ n ∧ n ≤ 9223372036854775807) :
    Calls Try.prog 48 #[.pointer (some ⟨g, 0, none⟩), .pointer (some ⟨g', 0, none⟩), .agg #[.int .i64 3, .int .i64 n, lv, .bool two]] w (Do6End w g g' q q') := by
  have H := hid h
  have hxa : Ext w (w.alloc (.cells #[.int .i64 3, .int .i64 n, lv, .bool two] 74)) := (Ext.refl w).alloc _
  have c1 : (w.alloc (.cells #[.int .i64 3, .int .i64 n, lv, .bool two] 74)).cell? ⟨w.heap.size, 1, none⟩ = some (.int .i64 n) := by simp [go_sem]
  have C1 := hid c1
  obtain ⟨A, HA⟩ : ∃ A, Hid (atF s n L = A) := ⟨_, hid rfl⟩
  obtain ⟨x, y, z⟩ := A
  clear h c1
  go_enter Try.func48, Try.ntmps48
  go_wp2_with (first | (go_at_call 19; go_must (refine (nodeAt_all _ g q s n L (H.out.node.ext hxa) H.out.ok hn).mono ?_; rw [HA.out]; rintro e w1 ⟨rfl, hb1⟩; have hx1 := Ext.of hb1; have d1 := hx1.cellS C1.out; clear hb1)) | (go_at_call 71; go_must (refine (rAt_all _ g' q' s n L (H.out.rnode.ext (hxa.trans hx1)) H.out.ok hn).mono ?_; rw [HA.out]; rintro e w2 ⟨rfl, hb2⟩; have hx2 := Ext.of hb2; clear hb2)))
  go_ret
  exact Do6End.same H.out (hxa.trans (hx1.trans hx2))

set_option maxRecDepth 100000 in
set_option maxHeartbeats 1000000 in
theorem do6_need (h : Pair6 w g g' q q' s L) (hn : -9223372036854775808 ≤ n ∧ n ≤ 9223372036854775807) :
    Calls Try.prog 48 #[.pointer (some ⟨g, 0, none⟩), .pointer (some ⟨g', 0, none⟩), .agg #[.int .i64 4, .int .i64 n, lv, .bool two]] w (Do6End w g g' q q') := by
  have H := hid h
  have hs1 := h.ok.lo
  have hs2 := h.ok.hi
  have hxa : Ext w (w.alloc (.cells #[.int .i64 4, .int .i64 n, lv, .bool two] 74)) := (Ext.refl w).alloc _
  have c1 : (w.alloc (.cells #[.int .i64 4, .int .i64 n, lv, .bool two] 74)).cell? ⟨w.heap.size, 1, none⟩ = some (.int .i64 n) := by simp [go_sem]
  have C1 := hid c1
  obtain ⟨A, HA⟩ : ∃ A, Hid (needF s n = A) := ⟨_, hid rfl⟩
  obtain ⟨x, y⟩ := A
  clear h c1
  go_enter Try.func48, Try.ntmps48
  go_wp2_with (first | (go_at_call 40; go_must (refine (nodeNeed_any _ g q s n L (H.out.node.ext hxa) ⟨hs1, hs2⟩ hn).mono ?_; rw [HA.out]; rintro e w1 ⟨rfl, hb1⟩; have hx1 := Ext.of hb1; have d1 := hx1.cellS C1.out; clear hb1)) | (go_at_call 68; go_must (refine (rNeed_any _ g' q' s n L (H.out.rnode.ext (hxa.trans hx1)) ⟨hs1, hs2⟩ hn).mono ?_; rw [HA.out]; rintro e w2 ⟨rfl, hb2⟩; have hx2 := Ext.of hb2; clear hb2)))
  go_ret
  exact Do6End.same H.out (hxa.trans (hx1.trans hx2))

set_option maxRecDepth 100000 in
set_option maxHeartbeats 1000000 in
theorem do6_asked (h : Pair6 w g g' q q' s L) :
    Calls Try.prog 48 #[.pointer (some ⟨g, 0, none⟩), .pointer (some ⟨g', 0, none⟩), .agg #[.int .i64 5, .int .i64 n, lv, .bool two]] w (Do6End w g g' q q') := by
  have H := hid h
  have hxa : Ext w (w.alloc (.cells #[.int .i64 5, .int .i64 n, lv, .bool two] 74)) := (Ext.refl w).alloc _
  clear h
  go_enter Try.func48, Try.ntmps48
  go_wp2_with (go_at_call 49; go_must (refine (asked6_any _ g g' q q' s L (H.out.node.ext hxa) (H.out.rnode.ext hxa) H.out.ok).mono ?_; rintro e w1 ⟨rfl, hb1⟩; have hx1 := Ext.of hb1; clear hb1))
  go_ret
  exact Do6End.same H.out (hxa.trans hx1)

set_option maxRecDepth 100000 in
set_option maxHeartbeats 1000000 in
theorem do6_none (k : Int) (h : Pair6 w g g' q q' s L) (h1 : (k == 1) = false) (h2 : (k == 2) = false) (h3 : (k == 3) = false) (h4 : (k == 4) = false) (h5 : (k == 5) = false) (h7 : (k == 7) = false) :
    Calls Try.prog 48 #[.pointer (some ⟨g, 0, none⟩), .pointer (some ⟨g', 0, none⟩), .agg #[.int .i64 k, .int .i64 n, lv, .bool two]] w (Do6End w g g' q q') := by
  have H := hid h
  have hxa : Ext w (w.alloc (.cells #[.int .i64 k, .int .i64 n, lv, .bool two] 74)) := (Ext.refl w).alloc _
  clear h
  go_enter Try.func48, Try.ntmps48
  go_wp2_with fail
  go_ret
  exact Do6End.same H.out hxa
end
end Go.Proofs.Ytbpcgfplokkfpaa
