/- cartularylaw02.BlockdevPlays, walked. -/
import Derived.Test.YtgbiffpnfpdcoaaRb9
namespace Go.Proofs.Ytgbiffpnfpdcoaa
open Go.RowKit Go.Maps
set_option linter.unusedVariables false
set_option linter.unusedSimpArgs false

/-- two pairs side by side, no part of one another nor of S -/
def Duo (w : World) (B M : Nat) (S : Nat → Prop) (g0 r0 g1 r1 : Nat) : Prop :=
  ∃ ρ0 R0 d0 ρ1 R1 d1, Pr w B M g0 r0 ρ0 R0 d0 ∧ Pr w B M g1 r1 ρ1 R1 d1 ∧ (∀ k, PB ρ0 R0 k → ¬ PB ρ1 R1 k) ∧ (∀ k, S k → k < w.heap.size ∧ ¬ PB ρ0 R0 k ∧ ¬ PB ρ1 R1 k) ∧ B ≤ w.heap.size
section
variable {w w' : World} {B M g0 r0 g1 r1 : Nat} {S : Nat → Prop}
theorem Duo.swap (h : Duo w B M S g0 r0 g1 r1) : Duo w B M S g1 r1 g0 r0 := by
  obtain ⟨ρ0, R0, d0, ρ1, R1, d1, h1, h2, h3, h4, h5⟩ := h
  exact ⟨ρ1, R1, d1, ρ0, R0, d0, h2, h1, fun k a b => h3 k b a, fun k hk => ⟨(h4 k hk).1, (h4 k hk).2.2, (h4 k hk).2.1⟩, h5⟩
theorem Duo.kept (h : Duo w B M S g0 r0 g1 r1) (hk : Keep (fun k => ¬ S k) w w') : Duo w' B M S g0 r0 g1 r1 := by
  obtain ⟨ρ0, R0, d0, ρ1, R1, d1, h1, h2, h3, h4, h5⟩ := h
  exact ⟨ρ0, R0, d0, ρ1, R1, d1, h1.kept (hk.mono fun k hk _ hS => (h4 k hS).2.1 hk), h2.kept (hk.mono fun k hk _ hS => (h4 k hS).2.2 hk), h3, fun k hk' => ⟨Nat.lt_of_lt_of_le (h4 k hk').1 hk.size, (h4 k hk').2⟩, Nat.le_trans h5 hk.size⟩
theorem Duo.ext (h : Duo w B M S g0 r0 g1 r1) (hx : Ext w w') : Duo w' B M S g0 r0 g1 r1 := h.kept (hx.keep _)
theorem Duo.mono {M' : Nat} (h : Duo w B M S g0 r0 g1 r1) (hm : M ≤ M') : Duo w B M' S g0 r0 g1 r1 := by
  obtain ⟨ρ0, R0, d0, ρ1, R1, d1, h1, h2, h3, h4, h5⟩ := h
  exact ⟨ρ0, R0, d0, ρ1, R1, d1, h1.mono hm, h2.mono hm, h3, h4, h5⟩
/-- a step on the first -/
theorem Duo.next {M' : Nat} {ρ0 ρ1 : Nat → Option DRol} {R0 R1 : Nat → Prop} {d1 d' : Dv} {d0 : Dv} (p0 : Pr w B M g0 r0 ρ0 R0 d0) (p1 : Pr w B M g1 r1 ρ1 R1 d1) (dis : ∀ k, PB ρ0 R0 k → ¬ PB ρ1 R1 k) (hS : ∀ k, S k → k < w.heap.size ∧ ¬ PB ρ0 R0 k ∧ ¬ PB ρ1 R1 k) (hB : B ≤ w.heap.size) (hm : M ≤ M')
    (hn : PrNext w w' B M' g0 r0 ρ0 R0 d') : Duo w' B M' S g0 r0 g1 r1 ∧ Keep (fun k => k < B ∨ S k) w w' := by
  obtain ⟨ρ', R', h1, h2, h3⟩ := hn
  refine ⟨⟨ρ', R', d', ρ1, R1, d1, h1, (p1.kept (h3.mono fun k hk _ e => dis k e hk)).mono hm, fun k hk e => ?_, fun k hk => ⟨Nat.lt_of_lt_of_le (hS k hk).1 h3.size, fun e => ?_, (hS k hk).2.2⟩, Nat.le_trans hB h3.size⟩, h3.mono fun k hk _ e => ?_⟩
  · rcases h2 k hk with h | h
    · exact dis k h e
    · have := (p1.lt e).2; omega
  · rcases h2 k e with h | h
    · exact (hS k hk).2.1 h
    · have := (hS k hk).1; omega
  · rcases hk with hk | hk
    · have := (p0.lt e).1; omega
    · exact (hS k hk).2.1 e
theorem duo_do (h : Duo w B M S g0 r0 g1 r1) (hM : M ≤ 900000) (kd : Int) (two : Bool) (n fill : Int) (hn : -9223372036854775808 ≤ n ∧ n ≤ 9223372036854775807) (hf : -9223372036854775808 ≤ fill ∧ fill ≤ 9223372036854775807) (head : ByteArray) (hhd : head.size ≤ 9223372036854775807) (pv : Value) (picks : List Int) (hp : RdS rI w (fun k => k < B) pv picks) (hpb : picks.length * 8 ≤ 140737488351232) :
    Calls Try.prog 40 #[.pointer (some ⟨g0, 0, none⟩), .pointer (some ⟨r0, 0, none⟩), .agg #[.int .i64 kd, .bool two, .int .i64 n, .int .i64 fill, .string head, pv]] w fun e w' => e = .returned (.bool true) ∧ Duo w' B (M + 3) S g0 r0 g1 r1 ∧ Keep (fun k => k < B ∨ S k) w w' := by
  obtain ⟨ρ0, R0, d0, ρ1, R1, d1, h1, h2, h3, h4, h5⟩ := h
  refine (do02_any h1 hM kd two n fill hn hf head hhd pv picks hp h5 hpb).mono ?_
  rintro e w' ⟨rfl, d', hd⟩
  exact ⟨rfl, Duo.next h1 h2 h3 h4 h5 (by omega) hd⟩
theorem duo_asked (h : Duo w B M S g0 r0 g1 r1) (hM : M ≤ 900000) :
    Calls Try.prog 41 #[.pointer (some ⟨g0, 0, none⟩), .pointer (some ⟨r0, 0, none⟩)] w fun e w' => e = .returned (.bool true) ∧ Ext w w' := by
  obtain ⟨ρ0, R0, d0, ρ1, R1, d1, h1, h2, h3, h4, h5⟩ := h
  exact asked02_any h1 hM
/-- between the two halves of a step -/
def Mid (w w1 : World) (B M M' : Nat) (S : Nat → Prop) (g0 r0 g1 r1 : Nat) (d' : Dv) : Prop :=
  ∃ ρ0 R0 d0 ρ1 R1 d1 ρ' sv pv rf P, Pr w B M g0 r0 ρ0 R0 d0 ∧ Pr w B M g1 r1 ρ1 R1 d1 ∧ (∀ k, PB ρ0 R0 k → ¬ PB ρ1 R1 k) ∧ (∀ k, S k → k < w.heap.size ∧ ¬ PB ρ0 R0 k ∧ ¬ PB ρ1 R1 k) ∧ B ≤ w.heap.size ∧
    RAt w B M r0 sv pv rf d0 P ∧ (∀ k, R0 k ↔ RBl r0 sv pv k) ∧ DvAt w1 g0 ρ' M' d' ∧ Keep (fun k => ρ0 k = none) w w1 ∧ (∀ k, ρ' k ≠ none → ρ0 k ≠ none ∨ w.heap.size ≤ k) ∧ d' = crashF d0 []
theorem duo_crash1 (h : Duo w B M S g0 r0 g1 r1) (hM : M ≤ 900000) :
    Calls Try.prog 29 #[.pointer (some ⟨g0, 0, none⟩), .slice none 0 0] w fun e w1 => e = .returned (.tuple #[]) ∧ ∃ d', Mid w w1 B M M S g0 r0 g1 r1 d' ∧ Keep (fun k => k < B ∨ S k) w w1 := by
  obtain ⟨ρ0, R0, d0, ρ1, R1, d1, h1, h2, h3, h4, h5⟩ := h
  obtain ⟨sv, pv, rf, P, hr, hR⟩ := h1.ref
  refine (Crash_any w g0 ρ0 M d0 h1.dv (by omega) (fun _ => False) _ [] (RdS.nil _ _ _) (fun k hk _ => hk.elim)).mono ?_
  rintro e w1 ⟨rfl, k1, k2⟩
  refine ⟨rfl, _, ⟨ρ0, R0, d0, ρ1, R1, d1, ρ0, sv, pv, rf, P, h1, h2, h3, h4, h5, hr, hR, k1, k2, fun k hk => .inl hk, rfl⟩, k2.mono fun k hk _ => ?_⟩
  by_cases e : ρ0 k = none
  · exact e
  · rcases hk with hk | hk
    · have := h1.low k e; omega
    · exact absurd (.inl e) (h4 k hk).2.1
theorem duo_crash2 {w1 : World} {d' : Dv} (h : Mid w w1 B M M S g0 r0 g1 r1 d') (hM : M ≤ 900000) :
    Calls Try.prog 42 #[.pointer (some ⟨r0, 0, none⟩), .slice none 0 0] w1 fun e w2 => e = .returned (.tuple #[]) ∧ Duo w2 B M S g0 r0 g1 r1 ∧ Keep (fun k => k < B ∨ S k) w1 w2 := by
  obtain ⟨ρ0, R0, d0, ρ1, R1, d1, ρ', sv, pv, rf, P, h1, h2, h3, h4, h5, hr, hR, k1, k2, k3, rfl⟩ := h
  have hr1 : RAt w1 B M r0 sv pv rf d0 P := h1.ref1 hr hR k2 (Ext.refl _)
  refine (RCrash_any hr1 (by omega) (fun _ => False) _ [] (RdS.nil _ _ _) (fun k hk _ => hk.elim)).mono ?_
  rintro e w2 ⟨rfl, ⟨rf2, hr2⟩, hk2⟩
  have hn := h1.next hr hR k1 k2 k3 (Ext.refl _) hr2 hk2 (fun k hk => by
    rcases hk with hk | hk | hk
    · exact .inl (.inl hk)
    · exact .inl (.inr (.inl hk))
    · simp [Value.ownBlock] at hk) (Keep.refl _ _)
  refine ⟨rfl, (Duo.next h1 h2 h3 h4 h5 (Nat.le_refl _) hn).1, hk2.mono fun k hk _ e => ?_⟩
  rcases hk with hk | hk
  · have := (hr.lt e).1; omega
  · exact (h4 k hk).2.1 (.inr ((hR k).2 e))
/-- the document's device, read at its head -/
theorem duo_head (h : Duo w B M S g0 r0 g1 r1) : ∃ a n c, w.cell? ⟨r0, 0, none⟩ = some (.slice a n c) ∧ n ≤ 512 := by
  obtain ⟨ρ0, R0, d0, ρ1, R1, d1, h1, h2, h3, h4, h5⟩ := h
  obtain ⟨sv, pv, rf, P, hr, hR⟩ := h1.ref
  obtain ⟨a, c, rfl⟩ := hr.safe.slice
  exact ⟨a, _, c, hr.c0, hr.size.2⟩
theorem Pr.make {b rg : Nat} {ρ : Nat → Option DRol} {sv pv : Value} {rf : Int} {d : Dv} {P : List (Int × Bk)} (h1 : DvAt w g0 ρ M d) (h2 : RAt w b M rg sv pv rf d P) (hB : ∀ k, ρ k ≠ none → B ≤ k ∧ k < b) (hb : B ≤ b) : Pr w B M g0 rg ρ (RBl rg sv pv) d := by
  refine ⟨h1, ⟨sv, pv, rf, P, h2.base hb, fun k => Iff.rfl⟩, fun k hk => (hB k hk).1, fun k hk => ?_⟩
  by_cases e : ρ k = none
  · exact e
  · have := (hB k e).2
    have := (h2.lt hk).1
    omega
/-- a copy of the first takes the second's place: its first half .. -/
def Half (w w1 : World) (B M : Nat) (S : Nat → Prop) (g0 r0 gn : Nat) : Prop :=
  ∃ ρ0 R0 d0 ρn, Pr w B M g0 r0 ρ0 R0 d0 ∧ (∀ k, S k → k < w.heap.size ∧ ¬ PB ρ0 R0 k) ∧ B ≤ w.heap.size ∧ DvAt w1 gn ρn (M + 1000) d0 ∧ (∀ k, ρn k ≠ none → w.heap.size ≤ k) ∧ Ext w w1
theorem duo_copy1 (h : Duo w B M S g0 r0 g1 r1) (hM : M ≤ 900000) :
    Calls Try.prog 37 #[.pointer (some ⟨g0, 0, none⟩)] w fun e w1 => ∃ gn, e = .returned (.pointer (some ⟨gn, 0, none⟩)) ∧ Half w w1 B M S g0 r0 gn ∧ Ext w w1 := by
  obtain ⟨ρ0, R0, d0, ρ1, R1, d1, h1, h2, h3, h4, h5⟩ := h
  refine (Copy_any w g0 ρ0 M d0 h1.dv (by omega)).mono ?_
  rintro e w1 ⟨gn, ρn, rfl, k1, k2, k3⟩
  exact ⟨gn, rfl, ⟨ρ0, R0, d0, ρn, h1, fun k hk => ⟨(h4 k hk).1, (h4 k hk).2.1⟩, h5, k1, k2, k3⟩, k3⟩
theorem duo_copy2 {w1 w2 : World} {gn : Nat} (h : Half w w1 B M S g0 r0 gn) (hM : M ≤ 900000) (hk : Keep (fun k => ¬ S k) w1 w2) :
    Calls Try.prog 39 #[.pointer (some ⟨r0, 0, none⟩)] w2 fun e w3 => ∃ rn, e = .returned (.pointer (some ⟨rn, 0, none⟩)) ∧ Duo w3 B (M + 1000) S g0 r0 gn rn ∧ Ext w2 w3 := by
  obtain ⟨ρ0, R0, d0, ρn, h1, h4, h5, k1, k2, k3⟩ := h
  have p2 : Pr w2 B M g0 r0 ρ0 R0 d0 := (h1.ext k3).kept (hk.mono fun k hk _ hS => (h4 k hS).2 hk)
  have q2 : DvAt w2 gn ρn (M + 1000) d0 := k1.keep (hk.mono fun k hk _ hS => by have := k2 k hk; have := (h4 k hS).1; omega)
  obtain ⟨sv, pv, rf, P, hr, hR⟩ := p2.ref
  refine (RCopy_any hr (by omega)).mono ?_
  rintro e w3 ⟨rn, sv', pv', rfl, hrn, hx⟩
  have hz1 := k3.size
  have hz2 := hk.size
  have hz3 := hx.size
  refine ⟨rn, rfl, ⟨ρ0, R0, d0, ρn, RBl rn sv' pv', d0, (p2.ext hx).mono (by omega), Pr.make (q2.ext hx) (hrn.mono (by omega)) (fun k hk => ⟨by have := k2 k hk; omega, q2.lt' hk⟩) (by omega), fun k hk e => ?_, fun k hk' => ⟨by have := (h4 k hk').1; omega, (h4 k hk').2, fun e => ?_⟩, by omega⟩, hx⟩
  · have hlt := (p2.lt hk).2
    have hlt1 := (h1.lt hk).2
    rcases e with e | e
    · have := k2 k e; omega
    · have := (hrn.lt e).1; omega
  · have hlt1 := (h4 k hk').1
    rcases e with e | e
    · have := k2 k e; omega
    · have := (hrn.lt e).1; omega
end
def RowsAt (w : World) (zd zm g0 r0 g1 r1 : Nat) : Prop :=
  w.heap[zd]? = some (.cells #[.pointer (some ⟨g0, 0, none⟩), .pointer (some ⟨g1, 0, none⟩)] 24 (0, 0)) ∧ w.heap[zm]? = some (.cells #[.pointer (some ⟨r0, 0, none⟩), .pointer (some ⟨r1, 0, none⟩)] 55 (0, 0))
def ZS (zd zm k : Nat) : Prop := k = zd ∨ k = zm
theorem RowsAt.kept {w w' : World} {zd zm g0 r0 g1 r1 : Nat} {S : Nat → Prop} (h : RowsAt w zd zm g0 r0 g1 r1) (hk : Keep S w w') (h1 : S zd) (h2 : S zm) : RowsAt w' zd zm g0 r0 g1 r1 :=
  ⟨(hk.block zd h1 (Array.getElem?_eq_some_iff.1 h.1).1).trans h.1, (hk.block zm h2 (Array.getElem?_eq_some_iff.1 h.2).1).trans h.2⟩
theorem RowsAt.ext {w w' : World} {zd zm g0 r0 g1 r1 : Nat} (h : RowsAt w zd zm g0 r0 g1 r1) (hx : Ext w w') : RowsAt w' zd zm g0 r0 g1 r1 := h.kept (hx.keep (fun _ => True)) trivial trivial

set_option maxRecDepth 100000 in
set_option maxHeartbeats 4000000 in
theorem blockdevPlays_any (w : World) (blocks : Int) (hb : -9223372036854775808 ≤ blocks ∧ blocks ≤ 9223372036854775807) (v1 : Value) (zs : List Call2) (hv : RdS rCall2 w (fun k => k < w.heap.size) v1 zs) (hz : ∀ z ∈ zs, z.2.2.2.2.2.length * 8 ≤ 140737488351232) :
    Calls Try.prog 9 #[.int .i64 blocks, v1] w fun e w' => e = .returned (.bool true) ∧ Ext w w' := by
  obtain ⟨va, vc, rfl, -, -⟩ := hv.slice
  have HV := hid hv
  have HZ := hid hz
  have HB := hid hb
  clear hv hz hb
  by_cases hbad : blocks < 64 ∨ 512 < blocks
  · have HBAD := hid hbad
    clear hbad
    go_enter Try.func9, Try.ntmps9
    go_wp2_with fail
    refine (awake02_any w).mono ?_
    rintro e w0 ⟨rfl, hx0⟩
    have HX0 := hid hx0
    clear hx0
    go_wp2_with fail
    refine (BNew_no w0 blocks HB.out HBAD.out).mono ?_
    rintro e w1 ⟨rfl, rfl⟩
    go_wp2_with fail
    refine (RNew_err w0 blocks HBAD.out).mono ?_
    rintro e w1 ⟨rfl, rfl⟩
    go_wp2_with fail
    go_ret
    exact ⟨rfl, HX0.out⟩
  · obtain ⟨n, rfl⟩ : ∃ n : Nat, blocks = n := ⟨blocks.toNat, by omega⟩
    have HN := hid (show 64 ≤ n ∧ n ≤ 512 by omega)
    clear hbad
    go_enter Try.func9, Try.ntmps9
    go_wp2_with fail
    refine (awake02_any w).mono ?_
    rintro e w0 ⟨rfl, hx0⟩
    have HX0 := hid hx0
    clear hx0
    go_wp2_with fail
    refine (BNew_ok w0 n HN.out.1 HN.out.2).mono ?_
    rintro e w1 ⟨g0, rfl, ⟨ρ0, hd0, hn0⟩, hx1⟩
    have HD0 := hid hd0
    have HN0 := hid hn0
    have HX1 := hid hx1
    clear hd0 hn0 hx1
    go_wp2_with fail
    refine (RNew_ok w1 n HN.out.1 HN.out.2).mono ?_
    rintro e w2 ⟨r0, sv, rfl, hr0, hx2⟩
    have hp0 : Pr w2 w0.heap.size 0 g0 r0 ρ0 (RBl r0 sv (.slice none 0 0)) (dv0 n) := Pr.make (HD0.out.ext hx2) hr0 (fun k hk => ⟨HN0.out k hk, HD0.out.lt' hk⟩) HX1.out.size
    have HP0 := hid hp0
    have HR0 := hid hr0
    have HX2 := hid (HX0.out.trans (HX1.out.trans hx2))
    have HSZ := hid (show w0.heap.size ≤ w2.heap.size from Nat.le_trans HX1.out.size hx2.size)
    clear hp0 hr0 hx2
    go_wp2_with fail
    refine (Copy_any w2 g0 ρ0 0 _ HP0.out.dv (by omega)).mono ?_
    rintro e w3 ⟨g1, ρ1, rfl, hd1, hn1, hx3⟩
    have HD1 := hid hd1
    have HN1 := hid hn1
    have HX3 := hid hx3
    clear hd1 hn1 hx3
    go_wp2_with fail
    obtain ⟨w4, hw4⟩ : ∃ w4, w4 = w3.alloc (.cells #[.pointer (some ⟨g0, 0, none⟩), .pointer (some ⟨g1, 0, none⟩)] 24) := ⟨_, rfl⟩
    rw [← hw4]
    have hx4 : Ext w3 w4 := by rw [hw4]; exact (Ext.refl _).alloc _
    have hd4 : w4.heap[w3.heap.size]? = some (.cells #[.pointer (some ⟨g0, 0, none⟩), .pointer (some ⟨g1, 0, none⟩)] 24 (0, 0)) := by rw [hw4]; exact heap_alloc_new _ _
    have hz4 : w4.heap.size = w3.heap.size + 1 := by rw [hw4]; simp
    have HX4 := hid hx4
    have HD4 := hid hd4
    have HZ4 := hid hz4
    clear hw4 hx4 hd4 hz4
    refine (RCopy_any (HR0.out.ext (HX3.out.trans HX4.out)) (by omega)).mono ?_
    rintro e w5 ⟨r1, sv1, pv1, rfl, hr1, hx5⟩
    have HR1 := hid hr1
    have HX5 := hid hx5
    clear hr1 hx5
    go_wp2_with fail
    obtain ⟨w6, hw6⟩ : ∃ w6, w6 = w5.alloc (.cells #[.pointer (some ⟨r0, 0, none⟩), .pointer (some ⟨r1, 0, none⟩)] 55) := ⟨_, rfl⟩
    rw [← hw6]
    have hx6 : Ext w5 w6 := by rw [hw6]; exact (Ext.refl _).alloc _
    have hm6 : w6.heap[w5.heap.size]? = some (.cells #[.pointer (some ⟨r0, 0, none⟩), .pointer (some ⟨r1, 0, none⟩)] 55 (0, 0)) := by rw [hw6]; exact heap_alloc_new _ _
    have hz6 : w6.heap.size = w5.heap.size + 1 := by rw [hw6]; simp
    have hrows : RowsAt w6 w3.heap.size w5.heap.size g0 r0 g1 r1 := ⟨row_ext (HX5.out.trans hx6) HD4.out, hm6⟩
    have hduo : Duo w6 w0.heap.size 1000 (ZS w3.heap.size w5.heap.size) g0 r0 g1 r1 := by
      have s3 := HX3.out.size
      have s4 := HZ4.out
      have s5 := HX5.out.size
      have s2 := HSZ.out
      have p0 := HP0.out.ext (HX3.out.trans (HX4.out.trans (HX5.out.trans hx6)))
      refine ⟨ρ0, _, _, ρ1, _, _, p0.mono (Nat.zero_le _), Pr.make ((HD1.out.ext (HX4.out.trans (HX5.out.trans hx6))).mono (by omega)) ((HR1.out.ext hx6).mono (by omega)) (fun k hk => ⟨by have := HN1.out k hk; omega, by have := HD1.out.lt' hk; omega⟩) (by omega), fun k hk e => ?_, fun k hk => ?_, by omega⟩
      · have h1 := (HP0.out.lt hk).2
        rcases e with e | e
        · have := HN1.out k e; omega
        · have := (HR1.out.lt e).1; omega
      · have n0 : ¬ PB ρ0 (RBl r0 sv (.slice none 0 0)) k := fun e => by
          have h1 := (HP0.out.lt e).2
          rcases hk with hk | hk <;> omega
        refine ⟨by rcases hk with hk | hk <;> omega, n0, fun e => ?_⟩
        rcases e with e | e
        · have := HD1.out.lt' e
          rcases hk with hk | hk <;> omega
        · have := HR1.out.lt e
          rcases hk with hk | hk <;> omega
    have hne : w5.heap.size ≠ w3.heap.size := by have := HZ4.out; have := HX5.out.size; omega
    have HZD := hid (show w.heap.size ≤ w3.heap.size by have := HX0.out.size; have := HSZ.out; have := HX3.out.size; omega)
    have HZM := hid (show w.heap.size ≤ w5.heap.size by have := HX0.out.size; have := HSZ.out; have := HX3.out.size; have := HZ4.out; have := HX5.out.size; omega)
    have HXW := hid (HX2.out.trans (HX3.out.trans (HX4.out.trans (HX5.out.trans hx6))))
    have HDUO := hid hduo
    have HROWS := hid hrows
    obtain ⟨zd, hzd⟩ : ∃ zd, w3.heap.size = zd := ⟨_, rfl⟩
    obtain ⟨zm, hzm⟩ : ∃ zm, w5.heap.size = zm := ⟨_, rfl⟩
    rw [hzd] at HZD HDUO HROWS hne ⊢
    rw [hzm] at HZM HDUO HROWS hne ⊢
    have HNE := hid hne
    have HNE' := hid hne.symm
    have HWB := hid HX0.out.size
    clear hw6 hx6 hm6 hz6 hrows hduo hne hzd hzm HD4 HZ4 HR1 HX5 HD1 HN1 HX3 HP0 HR0 HX2 HSZ HD0 HN0 HX1
    go_wp2_with fail
    go_loopw [12] (fun u12 wr => ∃ (i g0 r0 g1 r1 : Nat), u12 = .int .i64 i ∧ i ≤ zs.length ∧ i ≤ 400 ∧ RowsAt wr zd zm g0 r0 g1 r1 ∧ Duo wr w0.heap.size (1000 + 1003 * i) (ZS zd zm) g0 r0 g1 r1 ∧ Ext w wr) (fun u12 _ => zs.length - (intOf u12).toNat)
    case atStart => exact ⟨0, g0, r0, g1, r1, rfl, Nat.zero_le _, Nat.zero_le _, HROWS.out, HDUO.out, HXW.out⟩
    case round =>
      obtain ⟨i, g0', r0', g1', r1', rfl, hi, hi2, hrows, hduo, hxw⟩ := hrel
      have HROWS := hid hrows
      have DUO := hid hduo
      have HXW := hid hxw
      clear hrows hduo hxw
      by_cases hlt : i < zs.length ∧ i < 400
      · obtain ⟨hlt, hlt4⟩ := hlt
        obtain ⟨gp, op, cp, pv, e, hgp, -, c0, c1, c2, c3, c4, c5, -, b2, b3, b4, hpv⟩ := HV.out.atCall2 i hlt
        simp only [Value.slice.injEq] at e
        obtain ⟨rfl, -, rfl⟩ := e
        have hpl := HZ.out _ (List.getElem_mem hlt)
        generalize zs[i] = z at c0 c1 c2 c3 c4 c5 b2 b3 b4 hpv hpl
        obtain ⟨kd, two, zn, zf, zh, zp⟩ := z
        dsimp only at c0 c1 c2 c3 c4 c5 b2 b3 b4 hpv hpl
        have d0 := HXW.out.cellS c0
        have d1 := HXW.out.cellS c1
        have d2 := HXW.out.cellS c2
        have d3 := HXW.out.cellS c3
        have d4 := HXW.out.cellS c4
        have d5 := HXW.out.cellS c5
        obtain ⟨pa, pc, hpe, -, -⟩ := hpv.slice
        subst hpe
        have HPV := hid (hpv.ext HXW.out)
        have HPL := hid hpl
        have HGP := hid hgp
        have i1 : (i : Int) < (zs.length : Int) := by omega
        have i2 : (i : Int) < 400 := by omega
        have hw1 : IntKind.i64.wrap ((i : Int) + 1) = (i : Int) + 1 := by rw [IntKind.wrap_i64]; omega
        clear c0 c1 c2 c3 c4 c5 hpv hpl hgp
        by_cases h7 : kd = 7
        · subst h7
          cases two
          · have f1 := blk_fro HROWS.out.1 1
            have q0 := row_some HROWS.out.1 (i := 0) (by simp)
            have q1 := row_some HROWS.out.1 (i := 1) (by simp)
            have q2 := row_some HROWS.out.2 (i := 0) (by simp)
            simp only [List.getElem_toArray, List.getElem_cons_zero, List.getElem_cons_succ] at q0 q1 q2
            go_wp2_with fail
            refine (duo_copy1 DUO.out (by omega)).mono ?_
            rintro e w7 ⟨gn, rfl, hh7, hx7⟩
            have hrow7 := HROWS.out.ext hx7
            have HH7 := hid hh7
            have HX7 := hid hx7
            have HROW7 := hid hrow7
            have q1 := row_some hrow7.1 (i := 1) (by simp)
            have q2 := row_some hrow7.2 (i := 0) (by simp)
            have q3 := row_some hrow7.2 (i := 1) (by simp)
            have f1 := blk_fro hrow7.1 1
            simp only [List.getElem_toArray, List.getElem_cons_zero, List.getElem_cons_succ] at q1 q2 q3
            clear hh7 hx7 hrow7
            go_wp2_with fail
            obtain ⟨w8, hw8⟩ : ∃ w8, w8 = w7.setCell ⟨zd, 1, none⟩ (.pointer (some ⟨gn, 0, none⟩)) := ⟨_, rfl⟩
            rw [← hw8]
            have hk8 : Keep (fun k => k ≠ zd) w7 w8 := by rw [hw8]; exact (Keep.refl _ _).setCell (by simp) _
            have hd8 := blk_set (o := 1) HROW7.out.1 (.pointer (some ⟨gn, 0, none⟩))
            rw [← hw8] at hd8
            have hm8 := row_past1 hk8 HROW7.out.2 HNE.out
            have HK8 := hid hk8
            have HD8 := hid hd8
            have HM8 := hid hm8
            clear hw8 hk8 hd8 hm8 HROW7
            refine (duo_copy2 HH7.out (by omega) (HK8.out.mono fun k hk _ e => hk (.inl e))).mono ?_
            rintro e w9 ⟨rn, rfl, hduo, hx9⟩
            have hm9 := row_ext hx9 HM8.out
            have hd9 := row_ext hx9 HD8.out
            have f3 := blk_fro hm9 1
            have q3 := row_some hm9 (i := 1) (by simp)
            simp only [List.getElem_toArray, List.getElem_cons_zero, List.getElem_cons_succ] at q3
            have HM9 := hid hm9
            have HD9 := hid hd9
            have HDUO := hid hduo
            have HX9 := hid hx9
            clear hm9 hd9 hduo hx9
            go_wp2_with fail
            have hk10 : Keep (fun k => k ≠ zm) w9 (w9.setCell ⟨zm, 1, none⟩ (.pointer (some ⟨rn, 0, none⟩))) := (Keep.refl _ _).setCell (by simp) _
            refine ⟨⟨i + 1, g0', r0', gn, rn, rfl, by omega, by omega, ⟨(row_past1 hk10 HD9.out HNE'.out).trans rfl, (blk_set HM9.out _).trans rfl⟩, (HDUO.out.kept ((Keep.refl _ _).setCell (fun h => h (.inr rfl)) _)).mono (by omega), ?_⟩, by simp only [intOf]; omega⟩
            refine Keep.ext ((((HXW.out.trans HX7.out).keep (fun k => k < w.heap.size)).trans (HK8.out.mono fun k hk _ => by have := HZD.out; omega)).trans ((HX9.out.keep _).trans (hk10.mono fun k hk _ => by have := HZM.out; omega)) |>.mono fun k _ hl => hl)
          · have f1 := blk_fro HROWS.out.1 0
            have q0 := row_some HROWS.out.1 (i := 1) (by simp)
            have q1 := row_some HROWS.out.1 (i := 0) (by simp)
            have q2 := row_some HROWS.out.2 (i := 1) (by simp)
            simp only [List.getElem_toArray, List.getElem_cons_zero, List.getElem_cons_succ] at q0 q1 q2
            go_wp2_with fail
            refine (duo_copy1 DUO.out.swap (by omega)).mono ?_
            rintro e w7 ⟨gn, rfl, hh7, hx7⟩
            have hrow7 := HROWS.out.ext hx7
            have HH7 := hid hh7
            have HX7 := hid hx7
            have HROW7 := hid hrow7
            have q1 := row_some hrow7.1 (i := 0) (by simp)
            have q2 := row_some hrow7.2 (i := 1) (by simp)
            have q3 := row_some hrow7.2 (i := 0) (by simp)
            have f1 := blk_fro hrow7.1 0
            simp only [List.getElem_toArray, List.getElem_cons_zero, List.getElem_cons_succ] at q1 q2 q3
            clear hh7 hx7 hrow7
            go_wp2_with fail
            obtain ⟨w8, hw8⟩ : ∃ w8, w8 = w7.setCell ⟨zd, 0, none⟩ (.pointer (some ⟨gn, 0, none⟩)) := ⟨_, rfl⟩
            rw [← hw8]
            have hk8 : Keep (fun k => k ≠ zd) w7 w8 := by rw [hw8]; exact (Keep.refl _ _).setCell (by simp) _
            have hd8 := blk_set (o := 0) HROW7.out.1 (.pointer (some ⟨gn, 0, none⟩))
            rw [← hw8] at hd8
            have hm8 := row_past1 hk8 HROW7.out.2 HNE.out
            have HK8 := hid hk8
            have HD8 := hid hd8
            have HM8 := hid hm8
            clear hw8 hk8 hd8 hm8 HROW7
            refine (duo_copy2 HH7.out (by omega) (HK8.out.mono fun k hk _ e => hk (.inl e))).mono ?_
            rintro e w9 ⟨rn, rfl, hduo, hx9⟩
            have hm9 := row_ext hx9 HM8.out
            have hd9 := row_ext hx9 HD8.out
            have f3 := blk_fro hm9 0
            have q3 := row_some hm9 (i := 0) (by simp)
            simp only [List.getElem_toArray, List.getElem_cons_zero, List.getElem_cons_succ] at q3
            have HM9 := hid hm9
            have HD9 := hid hd9
            have HDUO := hid hduo
            have HX9 := hid hx9
            clear hm9 hd9 hduo hx9
            go_wp2_with fail
            have hk10 : Keep (fun k => k ≠ zm) w9 (w9.setCell ⟨zm, 0, none⟩ (.pointer (some ⟨rn, 0, none⟩))) := (Keep.refl _ _).setCell (by simp) _
            refine ⟨⟨i + 1, gn, rn, g1', r1', rfl, by omega, by omega, ⟨(row_past1 hk10 HD9.out HNE'.out).trans rfl, (blk_set HM9.out _).trans rfl⟩, (HDUO.out.swap.kept ((Keep.refl _ _).setCell (fun h => h (.inr rfl)) _)).mono (by omega), ?_⟩, by simp only [intOf]; omega⟩
            refine Keep.ext ((((HXW.out.trans HX7.out).keep (fun k => k < w.heap.size)).trans (HK8.out.mono fun k hk _ => by have := HZD.out; omega)).trans ((HX9.out.keep _).trans (hk10.mono fun k hk _ => by have := HZM.out; omega)) |>.mono fun k _ hl => hl)
        · cases two
          · have q0 := row_some HROWS.out.1 (i := 0) (by simp)
            have q2 := row_some HROWS.out.2 (i := 0) (by simp)
            simp only [List.getElem_toArray, List.getElem_cons_zero, List.getElem_cons_succ] at q0 q2
            go_wp2_with fail
            have hxd : Ext wr wr.drew := by (· repeat (first | (with_reducible assumption) | exact Ext.refl _ | refine Ext.alloc ?_ _ | refine Ext.drew ?_ | refine Ext.drewN ?_ _ | (apply Ext.snart; (with_reducible assumption))))
            refine wp_region_T (fun w' => w'.cell? ⟨zd, 0, none⟩ = some (.pointer (some ⟨g0', 0, none⟩)) ∧ w'.cell? ⟨zm, 0, none⟩ = some (.pointer (some ⟨r0', 0, none⟩)) ∧ w'.cell? ⟨gp, op + i * 6, none⟩ = some (.int .i64 kd) ∧ w'.cell? ⟨gp, op + i * 6 + 1, none⟩ = some (.bool false) ∧ w'.cell? ⟨gp, op + i * 6 + 2, none⟩ = some (.int .i64 zn) ∧ w'.cell? ⟨gp, op + i * 6 + 3, none⟩ = some (.int .i64 zf) ∧ w'.cell? ⟨gp, op + i * 6 + 4, none⟩ = some (.string zh) ∧ w'.cell? ⟨gp, op + i * 6 + 5, none⟩ = some (.slice pa zp.length pc)) [] (by kernel_rfl) ⟨Ext.cellS hxd q0, Ext.cellS hxd q2, Ext.cellS hxd d0, Ext.cellS hxd d1, Ext.cellS hxd d2, Ext.cellS hxd d3, Ext.cellS hxd d4, Ext.cellS hxd d5⟩ (fun hS => ?_)
            have HXD := hid hxd
            clear hxd
            (refine wpAnyT_take (i := 0) (v := ?_) rfl (by kernel_rfl) (by kernel_rfl) (by kernel_rfl) (by kernel_rfl) (fun _ _ _ h => h) (Or.inl ⟨by rfl, ?_⟩) (by assumption) ?_; rotate_left; ((intro wS hSw; (try dsimp only at hSw); (try simp only [List.getElem_toArray, List.getElem_cons_zero, List.getElem_cons_succ]); go_simp); (try with_reducible rfl)); (try simp only [Act.put, List.getElem_toArray, List.getElem_cons_zero, List.getElem_cons_succ, List.setIfInBounds_toArray, List.set_cons_zero, List.set_cons_succ]))
            (refine wpAnyT_take (i := 1) (v := ?_) rfl (by kernel_rfl) (by kernel_rfl) (by kernel_rfl) (by kernel_rfl) (fun _ _ _ h => h) (Or.inl ⟨by rfl, ?_⟩) (by assumption) ?_; rotate_left; ((intro wS hSw; (try dsimp only at hSw); (try simp only [List.getElem_toArray, List.getElem_cons_zero, List.getElem_cons_succ]); go_simp); (try with_reducible rfl)); (try simp only [Act.put, List.getElem_toArray, List.getElem_cons_zero, List.getElem_cons_succ, List.setIfInBounds_toArray, List.set_cons_zero, List.set_cons_succ]))
            (refine wpAnyT_take (i := 2) (v := ?_) rfl (by kernel_rfl) (by kernel_rfl) (by kernel_rfl) (by kernel_rfl) (fun _ _ _ h => h) (Or.inl ⟨by rfl, ?_⟩) (by assumption) ?_; rotate_left; ((intro wS hSw; (try dsimp only at hSw); (try simp only [List.getElem_toArray, List.getElem_cons_zero, List.getElem_cons_succ]); go_simp); (try with_reducible rfl)); (try simp only [Act.put, List.getElem_toArray, List.getElem_cons_zero, List.getElem_cons_succ, List.setIfInBounds_toArray, List.set_cons_zero, List.set_cons_succ]))
            (refine wpAnyT_take (i := 3) (v := ?_) rfl (by kernel_rfl) (by kernel_rfl) (by kernel_rfl) (by kernel_rfl) (fun _ _ _ h => h) (Or.inl ⟨by rfl, ?_⟩) (by assumption) ?_; rotate_left; ((intro wS hSw; (try dsimp only at hSw); (try simp only [List.getElem_toArray, List.getElem_cons_zero, List.getElem_cons_succ]); go_simp); (try with_reducible rfl)); (try simp only [Act.put, List.getElem_toArray, List.getElem_cons_zero, List.getElem_cons_succ, List.setIfInBounds_toArray, List.set_cons_zero, List.set_cons_succ]))
            (refine wpAnyT_take (i := 4) (v := ?_) rfl (by kernel_rfl) (by kernel_rfl) (by kernel_rfl) (by kernel_rfl) (fun _ _ _ h => h) (Or.inl ⟨by rfl, ?_⟩) (by assumption) ?_; rotate_left; ((intro wS hSw; (try dsimp only at hSw); (try simp only [List.getElem_toArray, List.getElem_cons_zero, List.getElem_cons_succ]); go_simp); (try with_reducible rfl)); (try simp only [Act.put, List.getElem_toArray, List.getElem_cons_zero, List.getElem_cons_succ, List.setIfInBounds_toArray, List.set_cons_zero, List.set_cons_succ]))
            (refine wpAnyT_take (i := 5) (v := ?_) rfl (by kernel_rfl) (by kernel_rfl) (by kernel_rfl) (by kernel_rfl) (fun _ _ _ h => h) (Or.inl ⟨by rfl, ?_⟩) (by assumption) ?_; rotate_left; ((intro wS hSw; (try dsimp only at hSw); (try simp only [List.getElem_toArray, List.getElem_cons_zero, List.getElem_cons_succ]); go_simp); (try with_reducible rfl)); (try simp only [Act.put, List.getElem_toArray, List.getElem_cons_zero, List.getElem_cons_succ, List.setIfInBounds_toArray, List.set_cons_zero, List.set_cons_succ]))
            (refine wpAnyT_take (i := 6) (v := ?_) rfl (by kernel_rfl) (by kernel_rfl) (by kernel_rfl) (by kernel_rfl) (fun _ _ _ h => h) (Or.inl ⟨by rfl, ?_⟩) (by assumption) ?_; rotate_left; ((intro wS hSw; (try dsimp only at hSw); (try simp only [List.getElem_toArray, List.getElem_cons_zero, List.getElem_cons_succ]); go_simp); (try with_reducible rfl)); (try simp only [Act.put, List.getElem_toArray, List.getElem_cons_zero, List.getElem_cons_succ, List.setIfInBounds_toArray, List.set_cons_zero, List.set_cons_succ]))
            (refine wpAnyT_take (i := 7) (v := ?_) rfl (by kernel_rfl) (by kernel_rfl) (by kernel_rfl) (by kernel_rfl) (fun _ _ _ h => h) (Or.inl ⟨by rfl, ?_⟩) (by assumption) ?_; rotate_left; ((intro wS hSw; (try dsimp only at hSw); (try simp only [List.getElem_toArray, List.getElem_cons_zero, List.getElem_cons_succ]); go_simp); (try with_reducible rfl)); (try simp only [Act.put, List.getElem_toArray, List.getElem_cons_zero, List.getElem_cons_succ, List.setIfInBounds_toArray, List.set_cons_zero, List.set_cons_succ]))
            (refine wpAnyT_take (i := 8) (v := ?_) rfl (by kernel_rfl) (by kernel_rfl) (by kernel_rfl) (by kernel_rfl) (fun _ _ _ h => h) (Or.inl ⟨by rfl, ?_⟩) (by assumption) ?_; rotate_left; ((intro wS hSw; (try dsimp only at hSw); (try simp only [List.getElem_toArray, List.getElem_cons_zero, List.getElem_cons_succ]); go_simp); (try with_reducible rfl)); (try simp only [Act.put, List.getElem_toArray, List.getElem_cons_zero, List.getElem_cons_succ, List.setIfInBounds_toArray, List.set_cons_zero, List.set_cons_succ]))
            (refine wpAnyT_take (i := 9) (v := ?_) rfl (by kernel_rfl) (by kernel_rfl) (by kernel_rfl) (by kernel_rfl) (fun _ _ _ h => h) (Or.inl ⟨by rfl, ?_⟩) (by assumption) ?_; rotate_left; ((intro wS hSw; (try dsimp only at hSw); (try simp only [List.getElem_toArray, List.getElem_cons_zero, List.getElem_cons_succ]); go_simp); (try with_reducible rfl)); (try simp only [Act.put, List.getElem_toArray, List.getElem_cons_zero, List.getElem_cons_succ, List.setIfInBounds_toArray, List.set_cons_zero, List.set_cons_succ]))
            (refine wpAnyT_take (i := 10) (v := ?_) rfl (by kernel_rfl) (by kernel_rfl) (by kernel_rfl) (by kernel_rfl) (fun _ _ _ h => h) (Or.inl ⟨by rfl, ?_⟩) (by assumption) ?_; rotate_left; ((intro wS hSw; (try dsimp only at hSw); (try simp only [List.getElem_toArray, List.getElem_cons_zero, List.getElem_cons_succ]); go_simp); (try with_reducible rfl)); (try simp only [Act.put, List.getElem_toArray, List.getElem_cons_zero, List.getElem_cons_succ, List.setIfInBounds_toArray, List.set_cons_zero, List.set_cons_succ]))
            (refine wpAnyT_take (i := 11) (v := ?_) rfl (by kernel_rfl) (by kernel_rfl) (by kernel_rfl) (by kernel_rfl) (fun _ _ _ h => h) (Or.inl ⟨by rfl, ?_⟩) (by assumption) ?_; rotate_left; ((intro wS hSw; (try dsimp only at hSw); (try simp only [List.getElem_toArray, List.getElem_cons_zero, List.getElem_cons_succ]); go_simp); (try with_reducible rfl)); (try simp only [Act.put, List.getElem_toArray, List.getElem_cons_zero, List.getElem_cons_succ, List.setIfInBounds_toArray, List.set_cons_zero, List.set_cons_succ]))
            refine wpAnyT_all (rs := [12]) (by kernel_rfl) (by decide) (AllT.consS rfl (fun K hK => ?_) AllT.nil)
            go_simp
            go_at_call 40
            refine (duo_do (DUO.out.ext HXD.out) (by omega) kd false zn zf b2 b3 zh b4 (.slice pa zp.length pc) zp ((HPV.out.ext HXD.out).mono fun k hk _ => Nat.lt_of_lt_of_le hk HWB.out) HPL.out).mono ?_
            rintro e w7 ⟨rfl, hduo, hk7⟩
            have HDUO := hid hduo
            have HK7 := hid hk7
            have HXW7 := hid (Keep.ext (((HXW.out.trans HXD.out).keep (fun k => k < w.heap.size)).trans (hk7.mono fun k hk _ => .inl (Nat.lt_of_lt_of_le hk HWB.out)) |>.mono fun k _ hl => hl))
            have HROW7 := hid ((HROWS.out.ext HXD.out).kept hk7 (.inr (.inl rfl)) (.inr (.inr rfl)))
            have hrow7 := HROW7.out
            have q0 := row_some hrow7.1 (i := 0) (by simp)
            have q2 := row_some hrow7.2 (i := 0) (by simp)
            simp only [List.getElem_toArray, List.getElem_cons_zero, List.getElem_cons_succ] at q0 q2
            have hgB : gp < w0.heap.size := Nat.lt_of_lt_of_le HGP.out HX0.out.size
            have hcc : ∀ j v, wr.drew.cell? ⟨gp, j, none⟩ = some v → w7.cell? ⟨gp, j, none⟩ = some v := fun j v h => hk7.cell h (.inl hgB)
            have hS7 := hS
            clear hduo hk7 hrow7
            (refine hK.out _ _ (⟨q0, q2, hcc _ _ hS7.2.2.1, hcc _ _ hS7.2.2.2.1, hcc _ _ hS7.2.2.2.2.1, hcc _ _ hS7.2.2.2.2.2.1, hcc _ _ hS7.2.2.2.2.2.2.1, hcc _ _ hS7.2.2.2.2.2.2.2⟩) (fun hS => ?_); clear hK K)
            refine wpAnyT_all (rs := [13]) (by kernel_rfl) (by decide) (AllT.consS rfl (fun K hK => ?_) AllT.nil)
            go_simp
            (refine hK.out _ _ (hS) (fun hS => ?_); clear hK K)
            refine wpAnyT_done (by kernel_rfl) (NoPanic.normal ?_) _
            clear hcc hS7
            go_wp2_with fail
            exact ⟨⟨i + 1, g0', r0', g1', r1', rfl, by omega, by omega, HROW7.out, HDUO.out.mono (by omega), HXW7.out⟩, by simp only [intOf]; omega⟩
          · have q0 := row_some HROWS.out.1 (i := 1) (by simp)
            have q2 := row_some HROWS.out.2 (i := 1) (by simp)
            simp only [List.getElem_toArray, List.getElem_cons_zero, List.getElem_cons_succ] at q0 q2
            go_wp2_with fail
            have hxd : Ext wr wr.drew := by (· repeat (first | (with_reducible assumption) | exact Ext.refl _ | refine Ext.alloc ?_ _ | refine Ext.drew ?_ | refine Ext.drewN ?_ _ | (apply Ext.snart; (with_reducible assumption))))
            refine wp_region_T (fun w' => w'.cell? ⟨zd, 1, none⟩ = some (.pointer (some ⟨g1', 0, none⟩)) ∧ w'.cell? ⟨zm, 1, none⟩ = some (.pointer (some ⟨r1', 0, none⟩)) ∧ w'.cell? ⟨gp, op + i * 6, none⟩ = some (.int .i64 kd) ∧ w'.cell? ⟨gp, op + i * 6 + 1, none⟩ = some (.bool true) ∧ w'.cell? ⟨gp, op + i * 6 + 2, none⟩ = some (.int .i64 zn) ∧ w'.cell? ⟨gp, op + i * 6 + 3, none⟩ = some (.int .i64 zf) ∧ w'.cell? ⟨gp, op + i * 6 + 4, none⟩ = some (.string zh) ∧ w'.cell? ⟨gp, op + i * 6 + 5, none⟩ = some (.slice pa zp.length pc)) [] (by kernel_rfl) ⟨Ext.cellS hxd q0, Ext.cellS hxd q2, Ext.cellS hxd d0, Ext.cellS hxd d1, Ext.cellS hxd d2, Ext.cellS hxd d3, Ext.cellS hxd d4, Ext.cellS hxd d5⟩ (fun hS => ?_)
            have HXD := hid hxd
            clear hxd
            (refine wpAnyT_take (i := 0) (v := ?_) rfl (by kernel_rfl) (by kernel_rfl) (by kernel_rfl) (by kernel_rfl) (fun _ _ _ h => h) (Or.inl ⟨by rfl, ?_⟩) (by assumption) ?_; rotate_left; ((intro wS hSw; (try dsimp only at hSw); (try simp only [List.getElem_toArray, List.getElem_cons_zero, List.getElem_cons_succ]); go_simp); (try with_reducible rfl)); (try simp only [Act.put, List.getElem_toArray, List.getElem_cons_zero, List.getElem_cons_succ, List.setIfInBounds_toArray, List.set_cons_zero, List.set_cons_succ]))
            (refine wpAnyT_take (i := 1) (v := ?_) rfl (by kernel_rfl) (by kernel_rfl) (by kernel_rfl) (by kernel_rfl) (fun _ _ _ h => h) (Or.inl ⟨by rfl, ?_⟩) (by assumption) ?_; rotate_left; ((intro wS hSw; (try dsimp only at hSw); (try simp only [List.getElem_toArray, List.getElem_cons_zero, List.getElem_cons_succ]); go_simp); (try with_reducible rfl)); (try simp only [Act.put, List.getElem_toArray, List.getElem_cons_zero, List.getElem_cons_succ, List.setIfInBounds_toArray, List.set_cons_zero, List.set_cons_succ]))
            (refine wpAnyT_take (i := 2) (v := ?_) rfl (by kernel_rfl) (by kernel_rfl) (by kernel_rfl) (by kernel_rfl) (fun _ _ _ h => h) (Or.inl ⟨by rfl, ?_⟩) (by assumption) ?_; rotate_left; ((intro wS hSw; (try dsimp only at hSw); (try simp only [List.getElem_toArray, List.getElem_cons_zero, List.getElem_cons_succ]); go_simp); (try with_reducible rfl)); (try simp only [Act.put, List.getElem_toArray, List.getElem_cons_zero, List.getElem_cons_succ, List.setIfInBounds_toArray, List.set_cons_zero, List.set_cons_succ]))
            (refine wpAnyT_take (i := 3) (v := ?_) rfl (by kernel_rfl) (by kernel_rfl) (by kernel_rfl) (by kernel_rfl) (fun _ _ _ h => h) (Or.inl ⟨by rfl, ?_⟩) (by assumption) ?_; rotate_left; ((intro wS hSw; (try dsimp only at hSw); (try simp only [List.getElem_toArray, List.getElem_cons_zero, List.getElem_cons_succ]); go_simp); (try with_reducible rfl)); (try simp only [Act.put, List.getElem_toArray, List.getElem_cons_zero, List.getElem_cons_succ, List.setIfInBounds_toArray, List.set_cons_zero, List.set_cons_succ]))
            (refine wpAnyT_take (i := 4) (v := ?_) rfl (by kernel_rfl) (by kernel_rfl) (by kernel_rfl) (by kernel_rfl) (fun _ _ _ h => h) (Or.inl ⟨by rfl, ?_⟩) (by assumption) ?_; rotate_left; ((intro wS hSw; (try dsimp only at hSw); (try simp only [List.getElem_toArray, List.getElem_cons_zero, List.getElem_cons_succ]); go_simp); (try with_reducible rfl)); (try simp only [Act.put, List.getElem_toArray, List.getElem_cons_zero, List.getElem_cons_succ, List.setIfInBounds_toArray, List.set_cons_zero, List.set_cons_succ]))
            (refine wpAnyT_take (i := 5) (v := ?_) rfl (by kernel_rfl) (by kernel_rfl) (by kernel_rfl) (by kernel_rfl) (fun _ _ _ h => h) (Or.inl ⟨by rfl, ?_⟩) (by assumption) ?_; rotate_left; ((intro wS hSw; (try dsimp only at hSw); (try simp only [List.getElem_toArray, List.getElem_cons_zero, List.getElem_cons_succ]); go_simp); (try with_reducible rfl)); (try simp only [Act.put, List.getElem_toArray, List.getElem_cons_zero, List.getElem_cons_succ, List.setIfInBounds_toArray, List.set_cons_zero, List.set_cons_succ]))
            (refine wpAnyT_take (i := 6) (v := ?_) rfl (by kernel_rfl) (by kernel_rfl) (by kernel_rfl) (by kernel_rfl) (fun _ _ _ h => h) (Or.inl ⟨by rfl, ?_⟩) (by assumption) ?_; rotate_left; ((intro wS hSw; (try dsimp only at hSw); (try simp only [List.getElem_toArray, List.getElem_cons_zero, List.getElem_cons_succ]); go_simp); (try with_reducible rfl)); (try simp only [Act.put, List.getElem_toArray, List.getElem_cons_zero, List.getElem_cons_succ, List.setIfInBounds_toArray, List.set_cons_zero, List.set_cons_succ]))
            (refine wpAnyT_take (i := 7) (v := ?_) rfl (by kernel_rfl) (by kernel_rfl) (by kernel_rfl) (by kernel_rfl) (fun _ _ _ h => h) (Or.inl ⟨by rfl, ?_⟩) (by assumption) ?_; rotate_left; ((intro wS hSw; (try dsimp only at hSw); (try simp only [List.getElem_toArray, List.getElem_cons_zero, List.getElem_cons_succ]); go_simp); (try with_reducible rfl)); (try simp only [Act.put, List.getElem_toArray, List.getElem_cons_zero, List.getElem_cons_succ, List.setIfInBounds_toArray, List.set_cons_zero, List.set_cons_succ]))
            (refine wpAnyT_take (i := 8) (v := ?_) rfl (by kernel_rfl) (by kernel_rfl) (by kernel_rfl) (by kernel_rfl) (fun _ _ _ h => h) (Or.inl ⟨by rfl, ?_⟩) (by assumption) ?_; rotate_left; ((intro wS hSw; (try dsimp only at hSw); (try simp only [List.getElem_toArray, List.getElem_cons_zero, List.getElem_cons_succ]); go_simp); (try with_reducible rfl)); (try simp only [Act.put, List.getElem_toArray, List.getElem_cons_zero, List.getElem_cons_succ, List.setIfInBounds_toArray, List.set_cons_zero, List.set_cons_succ]))
            (refine wpAnyT_take (i := 9) (v := ?_) rfl (by kernel_rfl) (by kernel_rfl) (by kernel_rfl) (by kernel_rfl) (fun _ _ _ h => h) (Or.inl ⟨by rfl, ?_⟩) (by assumption) ?_; rotate_left; ((intro wS hSw; (try dsimp only at hSw); (try simp only [List.getElem_toArray, List.getElem_cons_zero, List.getElem_cons_succ]); go_simp); (try with_reducible rfl)); (try simp only [Act.put, List.getElem_toArray, List.getElem_cons_zero, List.getElem_cons_succ, List.setIfInBounds_toArray, List.set_cons_zero, List.set_cons_succ]))
            (refine wpAnyT_take (i := 10) (v := ?_) rfl (by kernel_rfl) (by kernel_rfl) (by kernel_rfl) (by kernel_rfl) (fun _ _ _ h => h) (Or.inl ⟨by rfl, ?_⟩) (by assumption) ?_; rotate_left; ((intro wS hSw; (try dsimp only at hSw); (try simp only [List.getElem_toArray, List.getElem_cons_zero, List.getElem_cons_succ]); go_simp); (try with_reducible rfl)); (try simp only [Act.put, List.getElem_toArray, List.getElem_cons_zero, List.getElem_cons_succ, List.setIfInBounds_toArray, List.set_cons_zero, List.set_cons_succ]))
            (refine wpAnyT_take (i := 11) (v := ?_) rfl (by kernel_rfl) (by kernel_rfl) (by kernel_rfl) (by kernel_rfl) (fun _ _ _ h => h) (Or.inl ⟨by rfl, ?_⟩) (by assumption) ?_; rotate_left; ((intro wS hSw; (try dsimp only at hSw); (try simp only [List.getElem_toArray, List.getElem_cons_zero, List.getElem_cons_succ]); go_simp); (try with_reducible rfl)); (try simp only [Act.put, List.getElem_toArray, List.getElem_cons_zero, List.getElem_cons_succ, List.setIfInBounds_toArray, List.set_cons_zero, List.set_cons_succ]))
            refine wpAnyT_all (rs := [12]) (by kernel_rfl) (by decide) (AllT.consS rfl (fun K hK => ?_) AllT.nil)
            go_simp
            go_at_call 40
            refine (duo_do (DUO.out.swap.ext HXD.out) (by omega) kd true zn zf b2 b3 zh b4 (.slice pa zp.length pc) zp ((HPV.out.ext HXD.out).mono fun k hk _ => Nat.lt_of_lt_of_le hk HWB.out) HPL.out).mono ?_
            rintro e w7 ⟨rfl, hduo, hk7⟩
            have HDUO := hid hduo
            have HK7 := hid hk7
            have HXW7 := hid (Keep.ext (((HXW.out.trans HXD.out).keep (fun k => k < w.heap.size)).trans (hk7.mono fun k hk _ => .inl (Nat.lt_of_lt_of_le hk HWB.out)) |>.mono fun k _ hl => hl))
            have HROW7 := hid ((HROWS.out.ext HXD.out).kept hk7 (.inr (.inl rfl)) (.inr (.inr rfl)))
            have hrow7 := HROW7.out
            have q0 := row_some hrow7.1 (i := 1) (by simp)
            have q2 := row_some hrow7.2 (i := 1) (by simp)
            simp only [List.getElem_toArray, List.getElem_cons_zero, List.getElem_cons_succ] at q0 q2
            have hgB : gp < w0.heap.size := Nat.lt_of_lt_of_le HGP.out HX0.out.size
            have hcc : ∀ j v, wr.drew.cell? ⟨gp, j, none⟩ = some v → w7.cell? ⟨gp, j, none⟩ = some v := fun j v h => hk7.cell h (.inl hgB)
            have hS7 := hS
            clear hduo hk7 hrow7
            (refine hK.out _ _ (⟨q0, q2, hcc _ _ hS7.2.2.1, hcc _ _ hS7.2.2.2.1, hcc _ _ hS7.2.2.2.2.1, hcc _ _ hS7.2.2.2.2.2.1, hcc _ _ hS7.2.2.2.2.2.2.1, hcc _ _ hS7.2.2.2.2.2.2.2⟩) (fun hS => ?_); clear hK K)
            refine wpAnyT_all (rs := [13]) (by kernel_rfl) (by decide) (AllT.consS rfl (fun K hK => ?_) AllT.nil)
            go_simp
            (refine hK.out _ _ (hS) (fun hS => ?_); clear hK K)
            refine wpAnyT_done (by kernel_rfl) (NoPanic.normal ?_) _
            clear hcc hS7
            go_wp2_with fail
            exact ⟨⟨i + 1, g0', r0', g1', r1', rfl, by omega, by omega, HROW7.out, HDUO.out.swap.mono (by omega), HXW7.out⟩, by simp only [intOf]; omega⟩
      · have hex : ¬ (i : Int) < (zs.length : Int) ∨ ((i : Int) < (zs.length : Int) ∧ ¬ (i : Int) < 400) := by omega
        clear hlt
        rcases hex with i1 | ⟨i1, i2⟩
        all_goals
          go_wp2_with fail
          have HDUOA := hid (DUO.out.mono (show 1000 + 1003 * i ≤ 500000 by omega))
          clear DUO
          go_loopw [15] (fun u15 wr => ∃ K : Nat, u15 = .int .i64 K ∧ K ≤ 2 ∧ RowsAt wr zd zm g0' r0' g1' r1' ∧ Duo wr w0.heap.size (500000 + 2000 * K) (ZS zd zm) g0' r0' g1' r1' ∧ Ext w wr) (fun u15 _ => 2 - (intOf u15).toNat)
          case atStart => exact ⟨0, rfl, by omega, HROWS.out, HDUOA.out, HXW.out⟩
          case round =>
            obtain ⟨K, rfl, hK, hrows, hduo, hxw⟩ := hrel
            have HROWS := hid hrows
            have DUO := hid hduo
            have HXW := hid hxw
            clear hrows hduo hxw HDUOA
            have hk3 : K = 0 ∨ K = 1 ∨ K = 2 := by omega
            rcases hk3 with rfl | rfl | rfl
            · have q0 := row_some HROWS.out.1 (i := 0) (by simp)
              have q2 := row_some HROWS.out.2 (i := 0) (by simp)
              simp only [List.getElem_toArray, List.getElem_cons_zero, List.getElem_cons_succ] at q0 q2
              go_wp2_with fail
              have hxd : Ext wr wr.drew := by (· repeat (first | (with_reducible assumption) | exact Ext.refl _ | refine Ext.alloc ?_ _ | refine Ext.drew ?_ | refine Ext.drewN ?_ _ | (apply Ext.snart; (with_reducible assumption))))
              refine wp_region_T (fun w' => w'.cell? ⟨zd, 0, none⟩ = some (.pointer (some ⟨g0', 0, none⟩)) ∧ w'.cell? ⟨zm, 0, none⟩ = some (.pointer (some ⟨r0', 0, none⟩))) [] (by kernel_rfl) ⟨Ext.cellS hxd q0, Ext.cellS hxd q2⟩ (fun hS => ?_)
              have HXD := hid hxd
              clear hxd
              (refine wpAnyT_take (i := 0) (v := ?_) rfl (by kernel_rfl) (by kernel_rfl) (by kernel_rfl) (by kernel_rfl) (fun _ _ _ h => h) (Or.inl ⟨by rfl, ?_⟩) (by assumption) ?_; rotate_left; ((intro wS hSw; (try dsimp only at hSw); (try simp only [List.getElem_toArray, List.getElem_cons_zero, List.getElem_cons_succ]); go_simp); (try with_reducible rfl)); (try simp only [Act.put, List.getElem_toArray, List.getElem_cons_zero, List.getElem_cons_succ, List.setIfInBounds_toArray, List.set_cons_zero, List.set_cons_succ]))
              (refine wpAnyT_take (i := 1) (v := ?_) rfl (by kernel_rfl) (by kernel_rfl) (by kernel_rfl) (by kernel_rfl) (fun _ _ _ h => h) (Or.inl ⟨by rfl, ?_⟩) (by assumption) ?_; rotate_left; ((intro wS hSw; (try dsimp only at hSw); (try simp only [List.getElem_toArray, List.getElem_cons_zero, List.getElem_cons_succ]); go_simp); (try with_reducible rfl)); (try simp only [Act.put, List.getElem_toArray, List.getElem_cons_zero, List.getElem_cons_succ, List.setIfInBounds_toArray, List.set_cons_zero, List.set_cons_succ]))
              (refine wpAnyT_take (i := 2) (v := ?_) rfl (by kernel_rfl) (by kernel_rfl) (by kernel_rfl) (by kernel_rfl) (fun _ _ _ h => h) (Or.inl ⟨by rfl, ?_⟩) (by assumption) ?_; rotate_left; ((intro wS hSw; (try dsimp only at hSw); (try simp only [List.getElem_toArray, List.getElem_cons_zero, List.getElem_cons_succ]); go_simp); (try with_reducible rfl)); (try simp only [Act.put, List.getElem_toArray, List.getElem_cons_zero, List.getElem_cons_succ, List.setIfInBounds_toArray, List.set_cons_zero, List.set_cons_succ]))
              (refine wpAnyT_take (i := 3) (v := ?_) rfl (by kernel_rfl) (by kernel_rfl) (by kernel_rfl) (by kernel_rfl) (fun _ _ _ h => h) (Or.inl ⟨by rfl, ?_⟩) (by assumption) ?_; rotate_left; ((intro wS hSw; (try dsimp only at hSw); (try simp only [List.getElem_toArray, List.getElem_cons_zero, List.getElem_cons_succ]); go_simp); (try with_reducible rfl)); (try simp only [Act.put, List.getElem_toArray, List.getElem_cons_zero, List.getElem_cons_succ, List.setIfInBounds_toArray, List.set_cons_zero, List.set_cons_succ]))
              (refine wpAnyT_take (i := 4) (v := ?_) rfl (by kernel_rfl) (by kernel_rfl) (by kernel_rfl) (by kernel_rfl) (fun _ _ _ h => h) (Or.inl ⟨by rfl, ?_⟩) (by assumption) ?_; rotate_left; ((intro wS hSw; (try dsimp only at hSw); (try simp only [List.getElem_toArray, List.getElem_cons_zero, List.getElem_cons_succ]); go_simp); (try with_reducible rfl)); (try simp only [Act.put, List.getElem_toArray, List.getElem_cons_zero, List.getElem_cons_succ, List.setIfInBounds_toArray, List.set_cons_zero, List.set_cons_succ]))
              (refine wpAnyT_take (i := 5) (v := ?_) rfl (by kernel_rfl) (by kernel_rfl) (by kernel_rfl) (by kernel_rfl) (fun _ _ _ h => h) (Or.inl ⟨by rfl, ?_⟩) (by assumption) ?_; rotate_left; ((intro wS hSw; (try dsimp only at hSw); (try simp only [List.getElem_toArray, List.getElem_cons_zero, List.getElem_cons_succ]); go_simp); (try with_reducible rfl)); (try simp only [Act.put, List.getElem_toArray, List.getElem_cons_zero, List.getElem_cons_succ, List.setIfInBounds_toArray, List.set_cons_zero, List.set_cons_succ]))
              (refine wpAnyT_take (i := 6) (v := ?_) rfl (by kernel_rfl) (by kernel_rfl) (by kernel_rfl) (by kernel_rfl) (fun _ _ _ h => h) (Or.inl ⟨by rfl, ?_⟩) (by assumption) ?_; rotate_left; ((intro wS hSw; (try dsimp only at hSw); (try simp only [List.getElem_toArray, List.getElem_cons_zero, List.getElem_cons_succ]); go_simp); (try with_reducible rfl)); (try simp only [Act.put, List.getElem_toArray, List.getElem_cons_zero, List.getElem_cons_succ, List.setIfInBounds_toArray, List.set_cons_zero, List.set_cons_succ]))
              (refine wpAnyT_take (i := 7) (v := ?_) rfl (by kernel_rfl) (by kernel_rfl) (by kernel_rfl) (by kernel_rfl) (fun _ _ _ h => h) (Or.inl ⟨by rfl, ?_⟩) (by assumption) ?_; rotate_left; ((intro wS hSw; (try dsimp only at hSw); (try simp only [List.getElem_toArray, List.getElem_cons_zero, List.getElem_cons_succ]); go_simp); (try with_reducible rfl)); (try simp only [Act.put, List.getElem_toArray, List.getElem_cons_zero, List.getElem_cons_succ, List.setIfInBounds_toArray, List.set_cons_zero, List.set_cons_succ]))
              refine wpAnyT_all (rs := [8]) (by kernel_rfl) (by decide) (AllT.consS rfl (fun K hK => ?_) AllT.nil)
              go_simp
              go_at_call 41
              refine (duo_asked (DUO.out.ext HXD.out) (by omega)).mono ?_
              rintro e w7 ⟨rfl, hx7⟩
              have hx7' := HXD.out.trans hx7
              have HX7 := hid hx7'
              (refine hK.out _ _ (⟨Ext.cellS hx7' q0, Ext.cellS hx7' q2⟩) (fun hS => ?_); clear hK K)
              refine wpAnyT_all (rs := [9]) (by kernel_rfl) (by decide) (AllT.consS rfl (fun K hK => ?_) AllT.nil)
              go_simp
              (refine hK.out _ _ (hS) (fun hS => ?_); clear hK K)
              refine wpAnyT_done (by kernel_rfl) (NoPanic.normal ?_) _
              have HDU7 := hid (DUO.out.ext hx7')
              have HROW7 := hid (HROWS.out.ext hx7')
              have HXW7 := hid (HXW.out.trans hx7')
              have q0 := Ext.cellS hx7' q0
              have q2 := Ext.cellS hx7' q2
              clear hx7 hx7'
              go_wp2_with fail
              refine (duo_crash1 HDU7.out (by omega)).mono ?_
              rintro e w8 ⟨rfl, d8, hmid, hk8⟩
              have HMID := hid hmid
              have HROW8 := hid (HROW7.out.kept hk8 (.inr (.inl rfl)) (.inr (.inr rfl)))
              have HXW8 := hid (Keep.ext ((HXW7.out.keep (fun k => k < w.heap.size)).trans (hk8.mono fun k hk _ => .inl (Nat.lt_of_lt_of_le hk HWB.out)) |>.mono fun k _ hl => hl))
              have hrow8 := HROW8.out
              have q0 := row_some hrow8.1 (i := 0) (by simp)
              have q2 := row_some hrow8.2 (i := 0) (by simp)
              simp only [List.getElem_toArray, List.getElem_cons_zero, List.getElem_cons_succ] at q0 q2
              clear hmid hk8 hrow8
              go_wp2_with fail
              refine (duo_crash2 HMID.out (by omega)).mono ?_
              rintro e w9 ⟨rfl, hdu9, hk9⟩
              have HDU9 := hid hdu9
              have HROW9 := hid (HROW8.out.kept hk9 (.inr (.inl rfl)) (.inr (.inr rfl)))
              have HXW9 := hid (Keep.ext ((HXW8.out.keep (fun k => k < w.heap.size)).trans (hk9.mono fun k hk _ => .inl (Nat.lt_of_lt_of_le hk HWB.out)) |>.mono fun k _ hl => hl))
              clear hdu9 hk9 q0 q2
              go_wp2_with fail
              go_loopw [16, 17] (fun u16 u17 wr => ∃ n : Nat, u16 = .bool true ∧ u17 = .int .i64 n ∧ n ≤ 512 ∧ RowsAt wr zd zm g0' r0' g1' r1' ∧ Duo wr w0.heap.size (500000 + 2000 * 0 + 3 * n) (ZS zd zm) g0' r0' g1' r1' ∧ Ext w wr) (fun _ u17 _ => 512 - (intOf u17).toNat)
              case atStart => exact ⟨0, rfl, rfl, by omega, HROW9.out, HDU9.out, HXW9.out⟩
              case round =>
                obtain ⟨nn, rfl, rfl, hnn, hrow, hdu, hxw⟩ := hrel
                have HROW := hid hrow
                have HDU := hid hdu
                have HXWQ := hid hxw
                have q0 := row_some hrow.1 (i := 0) (by simp)
                have q2 := row_some hrow.2 (i := 0) (by simp)
                simp only [List.getElem_toArray, List.getElem_cons_zero, List.getElem_cons_succ] at q0 q2
                obtain ⟨sa, sn, sc, h0, hsn⟩ := duo_head hdu
                clear hrow hdu hxw
                by_cases hlt : nn < sn
                · have i1 : (nn : Int) < (sn : Int) := by omega
                  have hw1 : IntKind.i64.wrap ((nn : Int) + 1) = (nn : Int) + 1 := by rw [IntKind.wrap_i64]; omega
                  have d1 : decide (true = true) = true := rfl
                  go_wp2_with fail
                  have hxd : Ext wr wr.drew := by (· repeat (first | (with_reducible assumption) | exact Ext.refl _ | refine Ext.alloc ?_ _ | refine Ext.drew ?_ | refine Ext.drewN ?_ _ | (apply Ext.snart; (with_reducible assumption))))
                  refine wp_region_T (fun w' => w'.cell? ⟨zd, 0, none⟩ = some (.pointer (some ⟨g0', 0, none⟩)) ∧ w'.cell? ⟨zm, 0, none⟩ = some (.pointer (some ⟨r0', 0, none⟩))) [] (by kernel_rfl) ⟨Ext.cellS hxd q0, Ext.cellS hxd q2⟩ (fun hS => ?_)
                  have HXD2 := hid hxd
                  clear hxd
                  (refine wpAnyT_take (i := 0) (v := ?_) rfl (by kernel_rfl) (by kernel_rfl) (by kernel_rfl) (by kernel_rfl) (fun _ _ _ h => h) (Or.inl ⟨by rfl, ?_⟩) (by assumption) ?_; rotate_left; ((intro wS hSw; (try dsimp only at hSw); (try simp only [List.getElem_toArray, List.getElem_cons_zero, List.getElem_cons_succ]); go_simp); (try with_reducible rfl)); (try simp only [Act.put, List.getElem_toArray, List.getElem_cons_zero, List.getElem_cons_succ, List.setIfInBounds_toArray, List.set_cons_zero, List.set_cons_succ]))
                  (refine wpAnyT_take (i := 1) (v := ?_) rfl (by kernel_rfl) (by kernel_rfl) (by kernel_rfl) (by kernel_rfl) (fun _ _ _ h => h) (Or.inl ⟨by rfl, ?_⟩) (by assumption) ?_; rotate_left; ((intro wS hSw; (try dsimp only at hSw); (try simp only [List.getElem_toArray, List.getElem_cons_zero, List.getElem_cons_succ]); go_simp); (try with_reducible rfl)); (try simp only [Act.put, List.getElem_toArray, List.getElem_cons_zero, List.getElem_cons_succ, List.setIfInBounds_toArray, List.set_cons_zero, List.set_cons_succ]))
                  (refine wpAnyT_take (i := 2) (v := ?_) rfl (by kernel_rfl) (by kernel_rfl) (by kernel_rfl) (by kernel_rfl) (fun _ _ _ h => h) (Or.inl ⟨by rfl, ?_⟩) (by assumption) ?_; rotate_left; ((intro wS hSw; (try dsimp only at hSw); (try simp only [List.getElem_toArray, List.getElem_cons_zero, List.getElem_cons_succ]); go_simp); (try with_reducible rfl)); (try simp only [Act.put, List.getElem_toArray, List.getElem_cons_zero, List.getElem_cons_succ, List.setIfInBounds_toArray, List.set_cons_zero, List.set_cons_succ]))
                  (refine wpAnyT_take (i := 3) (v := ?_) rfl (by kernel_rfl) (by kernel_rfl) (by kernel_rfl) (by kernel_rfl) (fun _ _ _ h => h) (Or.inl ⟨by rfl, ?_⟩) (by assumption) ?_; rotate_left; ((intro wS hSw; (try dsimp only at hSw); (try simp only [List.getElem_toArray, List.getElem_cons_zero, List.getElem_cons_succ]); go_simp); (try with_reducible rfl)); (try simp only [Act.put, List.getElem_toArray, List.getElem_cons_zero, List.getElem_cons_succ, List.setIfInBounds_toArray, List.set_cons_zero, List.set_cons_succ]))
                  (refine wpAnyT_take (i := 4) (v := ?_) rfl (by kernel_rfl) (by kernel_rfl) (by kernel_rfl) (by kernel_rfl) (fun _ _ _ h => h) (Or.inl ⟨by rfl, ?_⟩) (by assumption) ?_; rotate_left; ((intro wS hSw; (try dsimp only at hSw); (try simp only [List.getElem_toArray, List.getElem_cons_zero, List.getElem_cons_succ]); go_simp); (try with_reducible rfl)); (try simp only [Act.put, List.getElem_toArray, List.getElem_cons_zero, List.getElem_cons_succ, List.setIfInBounds_toArray, List.set_cons_zero, List.set_cons_succ]))
                  (refine wpAnyT_take (i := 5) (v := ?_) rfl (by kernel_rfl) (by kernel_rfl) (by kernel_rfl) (by kernel_rfl) (fun _ _ _ h => h) (Or.inl ⟨by rfl, ?_⟩) (by assumption) ?_; rotate_left; ((intro wS hSw; (try dsimp only at hSw); (try simp only [List.getElem_toArray, List.getElem_cons_zero, List.getElem_cons_succ]); go_simp); (try with_reducible rfl)); (try simp only [Act.put, List.getElem_toArray, List.getElem_cons_zero, List.getElem_cons_succ, List.setIfInBounds_toArray, List.set_cons_zero, List.set_cons_succ]))
                  (refine wpAnyT_take (i := 6) (v := ?_) rfl (by kernel_rfl) (by kernel_rfl) (by kernel_rfl) (by kernel_rfl) (fun _ _ _ h => h) (Or.inl ⟨by rfl, ?_⟩) (by assumption) ?_; rotate_left; ((intro wS hSw; (try dsimp only at hSw); (try simp only [List.getElem_toArray, List.getElem_cons_zero, List.getElem_cons_succ]); go_simp); (try with_reducible rfl)); (try simp only [Act.put, List.getElem_toArray, List.getElem_cons_zero, List.getElem_cons_succ, List.setIfInBounds_toArray, List.set_cons_zero, List.set_cons_succ]))
                  (refine wpAnyT_take (i := 7) (v := ?_) rfl (by kernel_rfl) (by kernel_rfl) (by kernel_rfl) (by kernel_rfl) (fun _ _ _ h => h) (Or.inl ⟨by rfl, ?_⟩) (by assumption) ?_; rotate_left; ((intro wS hSw; (try dsimp only at hSw); (try simp only [List.getElem_toArray, List.getElem_cons_zero, List.getElem_cons_succ]); go_simp); (try with_reducible rfl)); (try simp only [Act.put, List.getElem_toArray, List.getElem_cons_zero, List.getElem_cons_succ, List.setIfInBounds_toArray, List.set_cons_zero, List.set_cons_succ]))
                  (refine wpAnyT_take (i := 8) (v := ?_) rfl (by kernel_rfl) (by kernel_rfl) (by kernel_rfl) (by kernel_rfl) (fun _ _ _ h => h) (Or.inl ⟨by rfl, ?_⟩) (by assumption) ?_; rotate_left; ((intro wS hSw; (try dsimp only at hSw); (try simp only [List.getElem_toArray, List.getElem_cons_zero, List.getElem_cons_succ]); go_simp); (try with_reducible rfl)); (try simp only [Act.put, List.getElem_toArray, List.getElem_cons_zero, List.getElem_cons_succ, List.setIfInBounds_toArray, List.set_cons_zero, List.set_cons_succ]))
                  (refine wpAnyT_take (i := 9) (v := ?_) rfl (by kernel_rfl) (by kernel_rfl) (by kernel_rfl) (by kernel_rfl) (fun _ _ _ h => h) (Or.inl ⟨by rfl, ?_⟩) (by assumption) ?_; rotate_left; ((intro wS hSw; (try dsimp only at hSw); (try simp only [List.getElem_toArray, List.getElem_cons_zero, List.getElem_cons_succ]); go_simp); (try with_reducible rfl)); (try simp only [Act.put, List.getElem_toArray, List.getElem_cons_zero, List.getElem_cons_succ, List.setIfInBounds_toArray, List.set_cons_zero, List.set_cons_succ]))
                  refine wpAnyT_all (rs := [10]) (by kernel_rfl) (by decide) (AllT.consS rfl (fun K hK => ?_) AllT.nil)
                  go_simp
                  go_at_call 40
                  refine (duo_do (HDU.out.ext HXD2.out) (by omega) 1 false nn 0 (by omega) (by decide) ⟨#[]⟩ (by decide) (.slice none 0 0) [] (RdS.nil _ _ _) (by decide)).mono ?_
                  rintro e wz ⟨rfl, hduo, hk7⟩
                  have HDUO := hid hduo
                  have HXWZ := hid (Keep.ext (((HXWQ.out.trans HXD2.out).keep (fun k => k < w.heap.size)).trans (hk7.mono fun k hk _ => .inl (Nat.lt_of_lt_of_le hk HWB.out)) |>.mono fun k _ hl => hl))
                  have HROWZ := hid ((HROW.out.ext HXD2.out).kept hk7 (.inr (.inl rfl)) (.inr (.inr rfl)))
                  have hrow7 := HROWZ.out
                  have q0 := row_some hrow7.1 (i := 0) (by simp)
                  have q2 := row_some hrow7.2 (i := 0) (by simp)
                  simp only [List.getElem_toArray, List.getElem_cons_zero, List.getElem_cons_succ] at q0 q2
                  clear hduo hk7 hrow7
                  (refine hK.out _ _ (⟨q0, q2⟩) (fun hS => ?_); clear hK K)
                  refine wpAnyT_all (rs := [11]) (by kernel_rfl) (by decide) (AllT.consS rfl (fun K hK => ?_) AllT.nil)
                  go_simp
                  (refine hK.out _ _ (hS) (fun hS => ?_); clear hK K)
                  refine wpAnyT_done (by kernel_rfl) (NoPanic.normal ?_) _
                  go_wp2_with fail
                  exact ⟨⟨nn + 1, rfl, rfl, by omega, HROWZ.out, HDUO.out.mono (by omega), HXWZ.out⟩, by simp only [intOf]; omega⟩
                · have i1 : ¬ (nn : Int) < (sn : Int) := by omega
                  have d1 : decide (true = true) = true := rfl
                  go_wp2_with fail
                  refine ⟨⟨0 + 1, rfl, by omega, HROW.out, HDU.out.mono (by omega), HXWQ.out⟩, by simp only [intOf]; omega⟩
            · have q0 := row_some HROWS.out.1 (i := 1) (by simp)
              have q2 := row_some HROWS.out.2 (i := 1) (by simp)
              simp only [List.getElem_toArray, List.getElem_cons_zero, List.getElem_cons_succ] at q0 q2
              go_wp2_with fail
              have hxd : Ext wr wr.drew := by (· repeat (first | (with_reducible assumption) | exact Ext.refl _ | refine Ext.alloc ?_ _ | refine Ext.drew ?_ | refine Ext.drewN ?_ _ | (apply Ext.snart; (with_reducible assumption))))
              refine wp_region_T (fun w' => w'.cell? ⟨zd, 1, none⟩ = some (.pointer (some ⟨g1', 0, none⟩)) ∧ w'.cell? ⟨zm, 1, none⟩ = some (.pointer (some ⟨r1', 0, none⟩))) [] (by kernel_rfl) ⟨Ext.cellS hxd q0, Ext.cellS hxd q2⟩ (fun hS => ?_)
              have HXD := hid hxd
              clear hxd
              (refine wpAnyT_take (i := 0) (v := ?_) rfl (by kernel_rfl) (by kernel_rfl) (by kernel_rfl) (by kernel_rfl) (fun _ _ _ h => h) (Or.inl ⟨by rfl, ?_⟩) (by assumption) ?_; rotate_left; ((intro wS hSw; (try dsimp only at hSw); (try simp only [List.getElem_toArray, List.getElem_cons_zero, List.getElem_cons_succ]); go_simp); (try with_reducible rfl)); (try simp only [Act.put, List.getElem_toArray, List.getElem_cons_zero, List.getElem_cons_succ, List.setIfInBounds_toArray, List.set_cons_zero, List.set_cons_succ]))
              (refine wpAnyT_take (i := 1) (v := ?_) rfl (by kernel_rfl) (by kernel_rfl) (by kernel_rfl) (by kernel_rfl) (fun _ _ _ h => h) (Or.inl ⟨by rfl, ?_⟩) (by assumption) ?_; rotate_left; ((intro wS hSw; (try dsimp only at hSw); (try simp only [List.getElem_toArray, List.getElem_cons_zero, List.getElem_cons_succ]); go_simp); (try with_reducible rfl)); (try simp only [Act.put, List.getElem_toArray, List.getElem_cons_zero, List.getElem_cons_succ, List.setIfInBounds_toArray, List.set_cons_zero, List.set_cons_succ]))
              (refine wpAnyT_take (i := 2) (v := ?_) rfl (by kernel_rfl) (by kernel_rfl) (by kernel_rfl) (by kernel_rfl) (fun _ _ _ h => h) (Or.inl ⟨by rfl, ?_⟩) (by assumption) ?_; rotate_left; ((intro wS hSw; (try dsimp only at hSw); (try simp only [List.getElem_toArray, List.getElem_cons_zero, List.getElem_cons_succ]); go_simp); (try with_reducible rfl)); (try simp only [Act.put, List.getElem_toArray, List.getElem_cons_zero, List.getElem_cons_succ, List.setIfInBounds_toArray, List.set_cons_zero, List.set_cons_succ]))
              (refine wpAnyT_take (i := 3) (v := ?_) rfl (by kernel_rfl) (by kernel_rfl) (by kernel_rfl) (by kernel_rfl) (fun _ _ _ h => h) (Or.inl ⟨by rfl, ?_⟩) (by assumption) ?_; rotate_left; ((intro wS hSw; (try dsimp only at hSw); (try simp only [List.getElem_toArray, List.getElem_cons_zero, List.getElem_cons_succ]); go_simp); (try with_reducible rfl)); (try simp only [Act.put, List.getElem_toArray, List.getElem_cons_zero, List.getElem_cons_succ, List.setIfInBounds_toArray, List.set_cons_zero, List.set_cons_succ]))
              (refine wpAnyT_take (i := 4) (v := ?_) rfl (by kernel_rfl) (by kernel_rfl) (by kernel_rfl) (by kernel_rfl) (fun _ _ _ h => h) (Or.inl ⟨by rfl, ?_⟩) (by assumption) ?_; rotate_left; ((intro wS hSw; (try dsimp only at hSw); (try simp only [List.getElem_toArray, List.getElem_cons_zero, List.getElem_cons_succ]); go_simp); (try with_reducible rfl)); (try simp only [Act.put, List.getElem_toArray, List.getElem_cons_zero, List.getElem_cons_succ, List.setIfInBounds_toArray, List.set_cons_zero, List.set_cons_succ]))
              (refine wpAnyT_take (i := 5) (v := ?_) rfl (by kernel_rfl) (by kernel_rfl) (by kernel_rfl) (by kernel_rfl) (fun _ _ _ h => h) (Or.inl ⟨by rfl, ?_⟩) (by assumption) ?_; rotate_left; ((intro wS hSw; (try dsimp only at hSw); (try simp only [List.getElem_toArray, List.getElem_cons_zero, List.getElem_cons_succ]); go_simp); (try with_reducible rfl)); (try simp only [Act.put, List.getElem_toArray, List.getElem_cons_zero, List.getElem_cons_succ, List.setIfInBounds_toArray, List.set_cons_zero, List.set_cons_succ]))
              (refine wpAnyT_take (i := 6) (v := ?_) rfl (by kernel_rfl) (by kernel_rfl) (by kernel_rfl) (by kernel_rfl) (fun _ _ _ h => h) (Or.inl ⟨by rfl, ?_⟩) (by assumption) ?_; rotate_left; ((intro wS hSw; (try dsimp only at hSw); (try simp only [List.getElem_toArray, List.getElem_cons_zero, List.getElem_cons_succ]); go_simp); (try with_reducible rfl)); (try simp only [Act.put, List.getElem_toArray, List.getElem_cons_zero, List.getElem_cons_succ, List.setIfInBounds_toArray, List.set_cons_zero, List.set_cons_succ]))
              (refine wpAnyT_take (i := 7) (v := ?_) rfl (by kernel_rfl) (by kernel_rfl) (by kernel_rfl) (by kernel_rfl) (fun _ _ _ h => h) (Or.inl ⟨by rfl, ?_⟩) (by assumption) ?_; rotate_left; ((intro wS hSw; (try dsimp only at hSw); (try simp only [List.getElem_toArray, List.getElem_cons_zero, List.getElem_cons_succ]); go_simp); (try with_reducible rfl)); (try simp only [Act.put, List.getElem_toArray, List.getElem_cons_zero, List.getElem_cons_succ, List.setIfInBounds_toArray, List.set_cons_zero, List.set_cons_succ]))
              refine wpAnyT_all (rs := [8]) (by kernel_rfl) (by decide) (AllT.consS rfl (fun K hK => ?_) AllT.nil)
              go_simp
              go_at_call 41
              refine (duo_asked (DUO.out.swap.ext HXD.out) (by omega)).mono ?_
              rintro e w7 ⟨rfl, hx7⟩
              have hx7' := HXD.out.trans hx7
              have HX7 := hid hx7'
              (refine hK.out _ _ (⟨Ext.cellS hx7' q0, Ext.cellS hx7' q2⟩) (fun hS => ?_); clear hK K)
              refine wpAnyT_all (rs := [9]) (by kernel_rfl) (by decide) (AllT.consS rfl (fun K hK => ?_) AllT.nil)
              go_simp
              (refine hK.out _ _ (hS) (fun hS => ?_); clear hK K)
              refine wpAnyT_done (by kernel_rfl) (NoPanic.normal ?_) _
              have HDU7 := hid (DUO.out.swap.ext hx7')
              have HROW7 := hid (HROWS.out.ext hx7')
              have HXW7 := hid (HXW.out.trans hx7')
              have q0 := Ext.cellS hx7' q0
              have q2 := Ext.cellS hx7' q2
              clear hx7 hx7'
              go_wp2_with fail
              refine (duo_crash1 HDU7.out (by omega)).mono ?_
              rintro e w8 ⟨rfl, d8, hmid, hk8⟩
              have HMID := hid hmid
              have HROW8 := hid (HROW7.out.kept hk8 (.inr (.inl rfl)) (.inr (.inr rfl)))
              have HXW8 := hid (Keep.ext ((HXW7.out.keep (fun k => k < w.heap.size)).trans (hk8.mono fun k hk _ => .inl (Nat.lt_of_lt_of_le hk HWB.out)) |>.mono fun k _ hl => hl))
              have hrow8 := HROW8.out
              have q0 := row_some hrow8.1 (i := 1) (by simp)
              have q2 := row_some hrow8.2 (i := 1) (by simp)
              simp only [List.getElem_toArray, List.getElem_cons_zero, List.getElem_cons_succ] at q0 q2
              clear hmid hk8 hrow8
              go_wp2_with fail
              refine (duo_crash2 HMID.out (by omega)).mono ?_
              rintro e w9 ⟨rfl, hdu9, hk9⟩
              have HDU9 := hid hdu9
              have HROW9 := hid (HROW8.out.kept hk9 (.inr (.inl rfl)) (.inr (.inr rfl)))
              have HXW9 := hid (Keep.ext ((HXW8.out.keep (fun k => k < w.heap.size)).trans (hk9.mono fun k hk _ => .inl (Nat.lt_of_lt_of_le hk HWB.out)) |>.mono fun k _ hl => hl))
              clear hdu9 hk9 q0 q2
              go_wp2_with fail
              go_loopw [16, 17] (fun u16 u17 wr => ∃ n : Nat, u16 = .bool true ∧ u17 = .int .i64 n ∧ n ≤ 512 ∧ RowsAt wr zd zm g0' r0' g1' r1' ∧ Duo wr w0.heap.size (500000 + 2000 * 1 + 3 * n) (ZS zd zm) g1' r1' g0' r0' ∧ Ext w wr) (fun _ u17 _ => 512 - (intOf u17).toNat)
              case atStart => exact ⟨0, rfl, rfl, by omega, HROW9.out, HDU9.out, HXW9.out⟩
              case round =>
                obtain ⟨nn, rfl, rfl, hnn, hrow, hdu, hxw⟩ := hrel
                have HROW := hid hrow
                have HDU := hid hdu
                have HXWQ := hid hxw
                have q0 := row_some hrow.1 (i := 1) (by simp)
                have q2 := row_some hrow.2 (i := 1) (by simp)
                simp only [List.getElem_toArray, List.getElem_cons_zero, List.getElem_cons_succ] at q0 q2
                obtain ⟨sa, sn, sc, h0, hsn⟩ := duo_head hdu
                clear hrow hdu hxw
                by_cases hlt : nn < sn
                · have i1 : (nn : Int) < (sn : Int) := by omega
                  have hw1 : IntKind.i64.wrap ((nn : Int) + 1) = (nn : Int) + 1 := by rw [IntKind.wrap_i64]; omega
                  have d1 : decide (true = true) = true := rfl
                  go_wp2_with fail
                  have hxd : Ext wr wr.drew := by (· repeat (first | (with_reducible assumption) | exact Ext.refl _ | refine Ext.alloc ?_ _ | refine Ext.drew ?_ | refine Ext.drewN ?_ _ | (apply Ext.snart; (with_reducible assumption))))
                  refine wp_region_T (fun w' => w'.cell? ⟨zd, 1, none⟩ = some (.pointer (some ⟨g1', 0, none⟩)) ∧ w'.cell? ⟨zm, 1, none⟩ = some (.pointer (some ⟨r1', 0, none⟩))) [] (by kernel_rfl) ⟨Ext.cellS hxd q0, Ext.cellS hxd q2⟩ (fun hS => ?_)
                  have HXD2 := hid hxd
                  clear hxd
                  (refine wpAnyT_take (i := 0) (v := ?_) rfl (by kernel_rfl) (by kernel_rfl) (by kernel_rfl) (by kernel_rfl) (fun _ _ _ h => h) (Or.inl ⟨by rfl, ?_⟩) (by assumption) ?_; rotate_left; ((intro wS hSw; (try dsimp only at hSw); (try simp only [List.getElem_toArray, List.getElem_cons_zero, List.getElem_cons_succ]); go_simp); (try with_reducible rfl)); (try simp only [Act.put, List.getElem_toArray, List.getElem_cons_zero, List.getElem_cons_succ, List.setIfInBounds_toArray, List.set_cons_zero, List.set_cons_succ]))
                  (refine wpAnyT_take (i := 1) (v := ?_) rfl (by kernel_rfl) (by kernel_rfl) (by kernel_rfl) (by kernel_rfl) (fun _ _ _ h => h) (Or.inl ⟨by rfl, ?_⟩) (by assumption) ?_; rotate_left; ((intro wS hSw; (try dsimp only at hSw); (try simp only [List.getElem_toArray, List.getElem_cons_zero, List.getElem_cons_succ]); go_simp); (try with_reducible rfl)); (try simp only [Act.put, List.getElem_toArray, List.getElem_cons_zero, List.getElem_cons_succ, List.setIfInBounds_toArray, List.set_cons_zero, List.set_cons_succ]))
                  (refine wpAnyT_take (i := 2) (v := ?_) rfl (by kernel_rfl) (by kernel_rfl) (by kernel_rfl) (by kernel_rfl) (fun _ _ _ h => h) (Or.inl ⟨by rfl, ?_⟩) (by assumption) ?_; rotate_left; ((intro wS hSw; (try dsimp only at hSw); (try simp only [List.getElem_toArray, List.getElem_cons_zero, List.getElem_cons_succ]); go_simp); (try with_reducible rfl)); (try simp only [Act.put, List.getElem_toArray, List.getElem_cons_zero, List.getElem_cons_succ, List.setIfInBounds_toArray, List.set_cons_zero, List.set_cons_succ]))
                  (refine wpAnyT_take (i := 3) (v := ?_) rfl (by kernel_rfl) (by kernel_rfl) (by kernel_rfl) (by kernel_rfl) (fun _ _ _ h => h) (Or.inl ⟨by rfl, ?_⟩) (by assumption) ?_; rotate_left; ((intro wS hSw; (try dsimp only at hSw); (try simp only [List.getElem_toArray, List.getElem_cons_zero, List.getElem_cons_succ]); go_simp); (try with_reducible rfl)); (try simp only [Act.put, List.getElem_toArray, List.getElem_cons_zero, List.getElem_cons_succ, List.setIfInBounds_toArray, List.set_cons_zero, List.set_cons_succ]))
                  (refine wpAnyT_take (i := 4) (v := ?_) rfl (by kernel_rfl) (by kernel_rfl) (by kernel_rfl) (by kernel_rfl) (fun _ _ _ h => h) (Or.inl ⟨by rfl, ?_⟩) (by assumption) ?_; rotate_left; ((intro wS hSw; (try dsimp only at hSw); (try simp only [List.getElem_toArray, List.getElem_cons_zero, List.getElem_cons_succ]); go_simp); (try with_reducible rfl)); (try simp only [Act.put, List.getElem_toArray, List.getElem_cons_zero, List.getElem_cons_succ, List.setIfInBounds_toArray, List.set_cons_zero, List.set_cons_succ]))
                  (refine wpAnyT_take (i := 5) (v := ?_) rfl (by kernel_rfl) (by kernel_rfl) (by kernel_rfl) (by kernel_rfl) (fun _ _ _ h => h) (Or.inl ⟨by rfl, ?_⟩) (by assumption) ?_; rotate_left; ((intro wS hSw; (try dsimp only at hSw); (try simp only [List.getElem_toArray, List.getElem_cons_zero, List.getElem_cons_succ]); go_simp); (try with_reducible rfl)); (try simp only [Act.put, List.getElem_toArray, List.getElem_cons_zero, List.getElem_cons_succ, List.setIfInBounds_toArray, List.set_cons_zero, List.set_cons_succ]))
                  (refine wpAnyT_take (i := 6) (v := ?_) rfl (by kernel_rfl) (by kernel_rfl) (by kernel_rfl) (by kernel_rfl) (fun _ _ _ h => h) (Or.inl ⟨by rfl, ?_⟩) (by assumption) ?_; rotate_left; ((intro wS hSw; (try dsimp only at hSw); (try simp only [List.getElem_toArray, List.getElem_cons_zero, List.getElem_cons_succ]); go_simp); (try with_reducible rfl)); (try simp only [Act.put, List.getElem_toArray, List.getElem_cons_zero, List.getElem_cons_succ, List.setIfInBounds_toArray, List.set_cons_zero, List.set_cons_succ]))
                  (refine wpAnyT_take (i := 7) (v := ?_) rfl (by kernel_rfl) (by kernel_rfl) (by kernel_rfl) (by kernel_rfl) (fun _ _ _ h => h) (Or.inl ⟨by rfl, ?_⟩) (by assumption) ?_; rotate_left; ((intro wS hSw; (try dsimp only at hSw); (try simp only [List.getElem_toArray, List.getElem_cons_zero, List.getElem_cons_succ]); go_simp); (try with_reducible rfl)); (try simp only [Act.put, List.getElem_toArray, List.getElem_cons_zero, List.getElem_cons_succ, List.setIfInBounds_toArray, List.set_cons_zero, List.set_cons_succ]))
                  (refine wpAnyT_take (i := 8) (v := ?_) rfl (by kernel_rfl) (by kernel_rfl) (by kernel_rfl) (by kernel_rfl) (fun _ _ _ h => h) (Or.inl ⟨by rfl, ?_⟩) (by assumption) ?_; rotate_left; ((intro wS hSw; (try dsimp only at hSw); (try simp only [List.getElem_toArray, List.getElem_cons_zero, List.getElem_cons_succ]); go_simp); (try with_reducible rfl)); (try simp only [Act.put, List.getElem_toArray, List.getElem_cons_zero, List.getElem_cons_succ, List.setIfInBounds_toArray, List.set_cons_zero, List.set_cons_succ]))
                  (refine wpAnyT_take (i := 9) (v := ?_) rfl (by kernel_rfl) (by kernel_rfl) (by kernel_rfl) (by kernel_rfl) (fun _ _ _ h => h) (Or.inl ⟨by rfl, ?_⟩) (by assumption) ?_; rotate_left; ((intro wS hSw; (try dsimp only at hSw); (try simp only [List.getElem_toArray, List.getElem_cons_zero, List.getElem_cons_succ]); go_simp); (try with_reducible rfl)); (try simp only [Act.put, List.getElem_toArray, List.getElem_cons_zero, List.getElem_cons_succ, List.setIfInBounds_toArray, List.set_cons_zero, List.set_cons_succ]))
                  refine wpAnyT_all (rs := [10]) (by kernel_rfl) (by decide) (AllT.consS rfl (fun K hK => ?_) AllT.nil)
                  go_simp
                  go_at_call 40
                  refine (duo_do (HDU.out.ext HXD2.out) (by omega) 1 false nn 0 (by omega) (by decide) ⟨#[]⟩ (by decide) (.slice none 0 0) [] (RdS.nil _ _ _) (by decide)).mono ?_
                  rintro e wz ⟨rfl, hduo, hk7⟩
                  have HDUO := hid hduo
                  have HXWZ := hid (Keep.ext (((HXWQ.out.trans HXD2.out).keep (fun k => k < w.heap.size)).trans (hk7.mono fun k hk _ => .inl (Nat.lt_of_lt_of_le hk HWB.out)) |>.mono fun k _ hl => hl))
                  have HROWZ := hid ((HROW.out.ext HXD2.out).kept hk7 (.inr (.inl rfl)) (.inr (.inr rfl)))
                  have hrow7 := HROWZ.out
                  have q0 := row_some hrow7.1 (i := 1) (by simp)
                  have q2 := row_some hrow7.2 (i := 1) (by simp)
                  simp only [List.getElem_toArray, List.getElem_cons_zero, List.getElem_cons_succ] at q0 q2
                  clear hduo hk7 hrow7
                  (refine hK.out _ _ (⟨q0, q2⟩) (fun hS => ?_); clear hK K)
                  refine wpAnyT_all (rs := [11]) (by kernel_rfl) (by decide) (AllT.consS rfl (fun K hK => ?_) AllT.nil)
                  go_simp
                  (refine hK.out _ _ (hS) (fun hS => ?_); clear hK K)
                  refine wpAnyT_done (by kernel_rfl) (NoPanic.normal ?_) _
                  go_wp2_with fail
                  exact ⟨⟨nn + 1, rfl, rfl, by omega, HROWZ.out, HDUO.out.mono (by omega), HXWZ.out⟩, by simp only [intOf]; omega⟩
                · have i1 : ¬ (nn : Int) < (sn : Int) := by omega
                  have d1 : decide (true = true) = true := rfl
                  go_wp2_with fail
                  refine ⟨⟨1 + 1, rfl, by omega, HROW.out, HDU.out.swap.mono (by omega), HXWQ.out⟩, by simp only [intOf]; omega⟩
            · go_wp2_with fail
              go_ret
              exact ⟨rfl, HXW.out⟩
theorem blockdevPlays_walk (w : World) (blocks : Int) (hb : -9223372036854775808 ≤ blocks ∧ blocks ≤ 9223372036854775807) (v1 : Value) (zs : List Call2) (hv : RdS rCall2 w (fun k => k < w.heap.size) v1 zs) (hz : ∀ z ∈ zs, z.2.2.2.2.2.length * 8 ≤ 140737488351232) :
    Calls Try.prog 9 #[.int .i64 blocks, v1] w fun e w' => e = .returned (.bool true) ∧ Below w.heap.size w w' :=
  (blockdevPlays_any w blocks hb v1 zs hv hz).mono fun e w' h => ⟨h.1, h.2.below⟩
end Go.Proofs.Ytgbiffpnfpdcoaa
