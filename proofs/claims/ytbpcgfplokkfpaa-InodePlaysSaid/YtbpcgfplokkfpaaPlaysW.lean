/- InodePlays, walked. -/
import Derived.Test.YtbpcgfplokkfpaaDo6f
import Derived.Test.YtbpcgfplokkfpaaGrown
namespace Go.Proofs.Ytbpcgfplokkfpaa
open Go.RowKit
set_option linter.unusedVariables false
set_option linter.unusedSimpArgs false

theorem do6_all (w : World) (g g' : Nat) (q q' : Option Nat) (s k n : Int) (L : List Int) (lv : Value) (two : Bool) (ls : List Run) (h : Pair6 w g g' q q' s L) (hn : -9223372036854775808 ≤ n ∧ n ≤ 9223372036854775807) (hl : RdR w lv ls) (hlo : ∀ r ∈ ls, RunOk r) (hl16 : ls.length * 16 ≤ 140737488351232) :
    Calls Try.prog 48 #[.pointer (some ⟨g, 0, none⟩), .pointer (some ⟨g', 0, none⟩), .agg #[.int .i64 k, .int .i64 n, lv, .bool two]] w (Do6End w g g' q q') := by
  by_cases h1 : k = 1
  · subst h1; exact do6_ext1 w g g' q q' s n L lv two ls h hn hl hlo hl16
  by_cases h2 : k = 2
  · subst h2; exact do6_cut w g g' q q' s n L lv two h hn
  by_cases h3 : k = 3
  · subst h3; exact do6_at w g g' q q' s n L lv two h hn
  by_cases h4 : k = 4
  · subst h4; exact do6_need w g g' q q' s n L lv two h hn
  by_cases h5 : k = 5
  · subst h5; exact do6_asked w g g' q q' s n L lv two h
  by_cases h7 : k = 7
  · subst h7; exact do6_ext7 w g g' q q' s n L lv two ls h hn hl hlo hl16
  exact do6_none w g g' q q' s n L lv two k h (by simpa using h1) (by simpa using h2) (by simpa using h3) (by simpa using h4) (by simpa using h5) (by simpa using h7)

theorem ap_new {q q1 : Option Nat} {n : Nat} {bs : List Nat} (h : ∀ b ∈ bs, q ≠ some b) (hl : ∀ b ∈ bs, b < n) (h1 : q1 = q ∨ ∀ k, q1 = some k → n ≤ k) : ∀ b ∈ bs, q1 ≠ some b := by
  intro b hb e
  rcases h1 with h1 | h1
  · exact h b hb (by rw [← h1, e])
  · have := h1 b e; have := hl b hb; omega
/-- two pairs, held by two rows -/
structure Duo6 (w : World) (base bf br gA gB rA rB : Nat) (qA qB pA pB : Option Nat) (sA sB : Int) (LA LB : List Int) : Prop where
  f : w.heap[bf]? = some (.cells #[.pointer (some ⟨gA, 0, none⟩), .pointer (some ⟨gB, 0, none⟩)] 24 (0, 0))
  r : w.heap[br]? = some (.cells #[.pointer (some ⟨rA, 0, none⟩), .pointer (some ⟨rB, 0, none⟩)] 69 (0, 0))
  a : Pair6 w gA rA qA pA sA LA
  b : Pair6 w gB rB qB pB sB LB
  nd : [bf, br, gA, gB, rA, rB].Nodup
  lo : ∀ z ∈ [bf, br, gA, gB, rA, rB], base ≤ z ∧ z < w.heap.size
  ap : ∀ q ∈ [qA, qB, pA, pB], ∀ z ∈ [bf, br, gA, gB, rA, rB], q ≠ some z
section
variable {w w' : World} {base bf br gA gB rA rB : Nat} {qA qB pA pB : Option Nat} {sA sB : Int} {LA LB : List Int}
theorem Duo6.ext (h : Duo6 w base bf br gA gB rA rB qA qB pA pB sA sB LA LB) (hx : Ext w w') : Duo6 w' base bf br gA gB rA rB qA qB pA pB sA sB LA LB :=
  ⟨by rw [Below.block hx bf (h.lo bf (by simp)).2]; exact h.f, by rw [Below.block hx br (h.lo br (by simp)).2]; exact h.r, h.a.ext hx, h.b.ext hx, h.nd, fun z hz => ⟨(h.lo z hz).1, Nat.lt_of_lt_of_le (h.lo z hz).2 hx.size⟩, h.ap⟩
theorem Duo6.stepA (h : Duo6 w base bf br gA gB rA rB qA qB pA pB sA sB LA LB) {e : Ending} (hd : Do6End w gA rA qA pA e w') : e = .returned (.bool true) ∧ Keep (fun k => k ≠ gA ∧ k ≠ rA) w w' ∧ ∃ q1 p1 s1 L1, Duo6 w' base bf br gA gB rA rB q1 qB p1 pB s1 sB L1 LB := by
  obtain ⟨he, q1, p1, s1, L1, hp, hk, hq, hq'⟩ := hd
  have hnd := h.nd
  simp only [List.nodup_cons, List.mem_cons, List.not_mem_nil, or_false, not_or, not_false_eq_true, List.nodup_nil, and_true] at hnd
  have hlt : ∀ z ∈ [bf, br, gA, gB, rA, rB], z < w.heap.size := fun z hz => (h.lo z hz).2
  refine ⟨he, hk, q1, p1, s1, L1, ?_, ?_, hp, ⟨h.b.node.keep hk ⟨by omega, by omega⟩ (fun k hkk => ⟨fun e => h.ap qB (by simp) gA (by simp) (by rw [hkk, e]), fun e => h.ap qB (by simp) rA (by simp) (by rw [hkk, e])⟩), h.b.rnode.keep hk ⟨by omega, by omega⟩ (fun k hkk => ⟨fun e => h.ap pB (by simp) gA (by simp) (by rw [hkk, e]), fun e => h.ap pB (by simp) rA (by simp) (by rw [hkk, e])⟩), h.b.ok, h.b.ne, h.b.qne, h.b.qne'⟩, h.nd, fun z hz => ⟨(h.lo z hz).1, Nat.lt_of_lt_of_le (h.lo z hz).2 hk.size⟩, ?_⟩
  · rw [hk.block bf ⟨by omega, by omega⟩ (h.lo bf (by simp)).2]; exact h.f
  · rw [hk.block br ⟨by omega, by omega⟩ (h.lo br (by simp)).2]; exact h.r
  · intro q hqm
    simp only [List.mem_cons, List.not_mem_nil, or_false] at hqm
    rcases hqm with rfl | rfl | rfl | rfl
    · exact ap_new (h.ap qA (by simp)) hlt hq
    · exact h.ap _ (by simp)
    · exact ap_new (h.ap pA (by simp)) hlt hq'
    · exact h.ap _ (by simp)
theorem Duo6.stepB (h : Duo6 w base bf br gA gB rA rB qA qB pA pB sA sB LA LB) {e : Ending} (hd : Do6End w gB rB qB pB e w') : e = .returned (.bool true) ∧ Keep (fun k => k ≠ gB ∧ k ≠ rB) w w' ∧ ∃ q1 p1 s1 L1, Duo6 w' base bf br gA gB rA rB qA q1 pA p1 sA s1 LA L1 := by
  obtain ⟨he, q1, p1, s1, L1, hp, hk, hq, hq'⟩ := hd
  have hnd := h.nd
  simp only [List.nodup_cons, List.mem_cons, List.not_mem_nil, or_false, not_or, not_false_eq_true, List.nodup_nil, and_true] at hnd
  have hlt : ∀ z ∈ [bf, br, gA, gB, rA, rB], z < w.heap.size := fun z hz => (h.lo z hz).2
  refine ⟨he, hk, q1, p1, s1, L1, ?_, ?_, ⟨h.a.node.keep hk ⟨by omega, by omega⟩ (fun k hkk => ⟨fun e => h.ap qA (by simp) gB (by simp) (by rw [hkk, e]), fun e => h.ap qA (by simp) rB (by simp) (by rw [hkk, e])⟩), h.a.rnode.keep hk ⟨by omega, by omega⟩ (fun k hkk => ⟨fun e => h.ap pA (by simp) gB (by simp) (by rw [hkk, e]), fun e => h.ap pA (by simp) rB (by simp) (by rw [hkk, e])⟩), h.a.ok, h.a.ne, h.a.qne, h.a.qne'⟩, hp, h.nd, fun z hz => ⟨(h.lo z hz).1, Nat.lt_of_lt_of_le (h.lo z hz).2 hk.size⟩, ?_⟩
  · rw [hk.block bf ⟨by omega, by omega⟩ (h.lo bf (by simp)).2]; exact h.f
  · rw [hk.block br ⟨by omega, by omega⟩ (h.lo br (by simp)).2]; exact h.r
  · intro q hqm
    simp only [List.mem_cons, List.not_mem_nil, or_false] at hqm
    rcases hqm with rfl | rfl | rfl | rfl
    · exact h.ap _ (by simp)
    · exact ap_new (h.ap qB (by simp)) hlt hq
    · exact h.ap _ (by simp)
    · exact ap_new (h.ap pB (by simp)) hlt hq'
end
end Go.Proofs.Ytbpcgfplokkfpaa
