/- The document's Node in memory; need, Need, Runs, Extend, walked. -/
import Derived.Test.YtbpcgfplokkfpaaRWhole
import Derived.Test.YtbpcgfplokkfpaaNodeE
namespace Go.Proofs.Ytbpcgfplokkfpaa
open Go.RowKit
set_option linter.unusedVariables false
set_option linter.unusedSimpArgs false

/-- block g is the document's Node of size s and blocks L, its row in block q -/
def RNodeAt (w : World) (g : Nat) (q : Option Nat) (s : Int) (L : List Int) : Prop :=
  ∃ vr, w.heap[g]? = some (.cells #[.int .i64 s, vr] 71 (0, 0)) ∧ RdI w vr L ∧ vr.ownBlock = q ∧ q ≠ some g ∧ (∀ k, q = some k → k < w.heap.size)
theorem RdI.keep {S : Nat → Prop} {w w' : World} {v : Value} {l : List Int} (h : RdI w v l) (hk : Keep S w w') (hS : 0 < l.length → ∀ k, v.ownBlock = some k → S k) : RdI w' v l :=
  Rd.carry0 h hk.size fun hn k hb hl => hk.block k (hS hn k hb) hl
theorem RNodeAt.keep {w w' : World} {g : Nat} {q : Option Nat} {s : Int} {L : List Int} {S : Nat → Prop} (h : RNodeAt w g q s L) (hk : Keep S w w') (hg : S g) (hq : ∀ k, q = some k → S k) : RNodeAt w' g q s L := by
  obtain ⟨vr, h1, h2, h3, h4, h5⟩ := h
  have hl : g < w.heap.size := (Array.getElem?_eq_some_iff.1 h1).1
  exact ⟨vr, by rw [hk.block g hg hl]; exact h1, h2.keep hk (fun _ k hb => hq k (by rw [← h3]; exact hb)), h3, h4, fun k hb => Nat.lt_of_lt_of_le (h5 k hb) hk.size⟩
theorem RNodeAt.ext {w w' : World} {g : Nat} {q : Option Nat} {s : Int} {L : List Int} (h : RNodeAt w g q s L) (hx : Ext w w') : RNodeAt w' g q s L := h.keep (hx.keep (fun _ => True)) trivial fun _ _ => trivial
theorem RNodeAt.lt {w : World} {g : Nat} {q : Option Nat} {s : Int} {L : List Int} (h : RNodeAt w g q s L) : g < w.heap.size := by
  obtain ⟨vr, h1, _⟩ := h
  exact (Array.getElem?_eq_some_iff.1 h1).1
theorem RNodeAt.cells {w : World} {g : Nat} {q : Option Nat} {s : Int} {L : List Int} (h : RNodeAt w g q s L) :
    ∃ a cap, w.cell? ⟨g, 0, none⟩ = some (.int .i64 s) ∧ w.cell? ⟨g, 1, none⟩ = some (.slice a L.length cap) ∧ RdI w (.slice a L.length cap) L ∧ w.frozen? ⟨g, 0, none⟩ = false ∧ w.frozen? ⟨g, 1, none⟩ = false ∧ L.length ≤ cap ∧ cap ≤ 9223372036854775807 := by
  obtain ⟨vr, h1, h2, h3, h4, h5⟩ := h
  obtain ⟨a, cap, rfl, hc1, hc2⟩ := h2.slice
  refine ⟨a, cap, by rw [cell_of_row _ _ _ _ _ _ h1]; rfl, by rw [cell_of_row _ _ _ _ _ _ h1]; rfl, h2, ?_, ?_, hc1, hc2⟩
  · simp [World.frozen?, h1]
  · simp [World.frozen?, h1]

set_option maxRecDepth 100000 in
set_option maxHeartbeats 400000 in
theorem rneed_any (w : World) (n : Int) (h0 : 0 ≤ n) (h1 : n ≤ 4611686018427387904) : Calls Try.prog 81 #[.int .i64 n] w fun e w' => e = .returned (.int .i64 (nb n)) ∧ w = w' := by
  have hd : n.tdiv 512 = n / 512 := Int.tdiv_eq_ediv_of_nonneg h0
  have hr : n.tmod 512 = n % 512 := Int.tmod_eq_emod_of_nonneg h0
  have hw : IntKind.i64.wrap (n / 512) = n / 512 := IntWalk.i64_in _ (by omega)
  have hw2 : IntKind.i64.wrap (n / 512 + 1) = n / 512 + 1 := IntWalk.i64_in _ (by omega)
  have h3 : 0 < n % 512 ∨ n % 512 = 0 := by omega
  rcases h3 with h3 | h3
  · have hd3 : decide (0 < n % 512) = true := decide_eq_true h3
    have HE := hid (show nb n = n / 512 + 1 by unfold nb; omega)
    go_enter Try.func81, Try.ntmps81
    go_wp2_with fail
    go_ret
    exact ⟨ret_i64 HE.out.symm, rfl⟩
  · have hd3 : decide (0 < n % 512) = false := decide_eq_false (by omega)
    have HE := hid (show nb n = n / 512 by unfold nb; omega)
    go_enter Try.func81, Try.ntmps81
    go_wp2_with fail
    go_ret
    exact ⟨ret_i64 HE.out.symm, rfl⟩

set_option maxRecDepth 100000 in
set_option maxHeartbeats 400000 in
theorem rNeed_any (w : World) (g : Nat) (q : Option Nat) (s n : Int) (L : List Int) (h : RNodeAt w g q s L) (hs : 0 ≤ s ∧ s ≤ 32768) (hn : -9223372036854775808 ≤ n ∧ n ≤ 9223372036854775807) :
    Calls Try.prog 68 #[.pointer (some ⟨g, 0, none⟩), .int .i64 n] w fun e w' => e = .returned (.tuple #[.int .i64 (needF s n).1, .int .i64 (needF s n).2]) ∧ Below w.heap.size w w' := by
  obtain ⟨a, cap, c0, c1, -⟩ := h.cells
  obtain ⟨hs1, hs2⟩ := hs
  obtain ⟨hn1, hn2⟩ := hn
  by_cases hneg : n < 0
  · have HF := hid (show needF s n = (0, 1) by unfold needF; rw [if_pos hneg])
    go_enter Try.func68, Try.ntmps68
    go_wp2_with fail
    go_ret2
    exact ⟨by rw [HF.out]; rfl, Below.refl _ _⟩
  · by_cases hbig : 32768 - s < n
    · have HF := hid (show needF s n = (0, 60) by unfold needF; rw [if_neg hneg, if_pos hbig])
      go_enter Try.func68, Try.ntmps68
      go_wp2_with fail
      go_ret2
      exact ⟨by rw [HF.out]; rfl, Below.refl _ _⟩
    · have HF := hid (show needF s n = (nb (s + n) - nb s, 0) by unfold needF; rw [if_neg hneg, if_neg hbig])
      have b1 := nb_lo hs1
      have b2 := nb_hi hs2
      have b3 := nb_lo (show 0 ≤ s + n by omega)
      have b4 := nb_hi (show s + n ≤ 32768 by omega)
      go_enter Try.func68, Try.ntmps68
      have e1 : IntKind.i64.wrap (s + n) = s + n := IntWalk.i64_in _ (by omega)
      have e2 : IntKind.i64.wrap (nb (s + n) - nb s) = nb (s + n) - nb s := IntWalk.i64_in _ (by omega)
      have hsn : 0 ≤ s + n := by omega
      have hsn2 : s + n ≤ 4611686018427387904 := by omega
      have hs3 : s ≤ 4611686018427387904 := by omega
      go_wp2_with fail
      go_quiet ((go_at_call 81; first | exact quiet_left (rneed_any _ _ hsn hsn2) | exact quiet_left (rneed_any _ _ hs1 hs3)))
      clear e1 e2
      go_wp2_with fail
      go_ret2
      exact ⟨by rw [HF.out]; rfl, below_drewN (Below.refl _ _) _⟩

set_option maxRecDepth 100000 in
set_option maxHeartbeats 400000 in
theorem rRuns_any (w : World) (g : Nat) (q : Option Nat) (s : Int) (L : List Int) (h : RNodeAt w g q s L) (ho : NodeOk s L) : Calls Try.prog 72 #[.pointer (some ⟨g, 0, none⟩)] w fun e w' => ∃ v', e = .returned v' ∧ OwnR w' w.heap.size v' (whole L) ∧ (L = [] → v' = .slice none 0 0) ∧ Below w.heap.size w w' := by
  obtain ⟨a, cap, c0, c1, hr, -, -, hcap, hc⟩ := h.cells
  have hl := ho.len64
  have HB := hid ho.blk
  go_enter Try.func72, Try.ntmps72
  go_wp2_with fail
  refine (Whole_any w _ L hr (by omega) HB.out).mono ?_
  rintro e w' ⟨v', rfl, h1, h2, h3⟩
  have H2 := hid h2
  clear h2
  go_wp2_with fail
  go_ret
  exact ⟨_, rfl, h1, H2.out, h3⟩

def RExtEnd (w : World) (g : Nat) (q : Option Nat) (s n : Int) (L : List Int) (ls : List Run) (e : Ending) (w' : World) : Prop :=
  e = .returned (.int .i64 (extF s n ls)) ∧ ∃ q', RNodeAt w' g q' (if extF s n ls = 0 then s + n else s) (if extF s n ls = 0 then L ++ expand ls else L) ∧ Keep (fun k => k ≠ g) w w' ∧ (q' = q ∨ ∀ k, q' = some k → w.heap.size ≤ k)
theorem RExtEnd.bad {w w' : World} {g : Nat} {q : Option Nat} {s n c : Int} {L : List Int} {ls : List Run} (hE : extF s n ls = c) (hc : c ≠ 0) (h : RNodeAt w g q s L) (hx : Ext w w') : RExtEnd w g q s n L ls (.returned (.int .i64 c)) w' := by
  subst hE
  exact ⟨rfl, by rw [if_neg hc, if_neg hc]; exact ⟨q, h.ext hx, hx.keep _, .inl rfl⟩⟩
theorem extOk_iff (l : List Run) (need : Int) : extOk l need = true ↔ (∀ r ∈ l, 0 ≤ r.1 ∧ 1 ≤ r.2 ∧ r.1 + r.2 ≤ 512) ∧ ((expand l).length : Int) = need := by
  refine ⟨extOk_lens l need, ?_⟩
  revert need
  induction l with
  | nil => rintro need ⟨_, h⟩; simp [extOk, expand] at *; omega
  | cons r l ih =>
    rintro need ⟨h1, h2⟩
    have hr := h1 r (by simp)
    obtain ⟨f, n⟩ := r
    rw [expand_cons, List.length_append, expand_one_len] at h2
    dsimp only at hr
    simp only [extOk, badRun, Bool.and_eq_true, Bool.not_eq_true', decide_eq_false_iff_not]
    refine ⟨by omega, ih _ ⟨fun r hr => h1 r (by simp [hr]), by omega⟩⟩
theorem ext_bad_run {s n : Int} {ls : List Run} {r : Run} (h0 : (needF s n).2 = 0) (hr : r ∈ ls) (hb : ¬ (0 ≤ r.1 ∧ 1 ≤ r.2 ∧ r.1 + r.2 ≤ 512)) : extF s n ls = 1 := by
  rw [extF_go h0, if_neg]
  intro h
  exact hb (((extOk_iff _ _).1 h).1 r hr)
theorem take_grow (A : List Int) (x : Int) (k : Nat) (h : A.length < k) : (A ++ [x]).take k = A.take k ++ [x] := by
  rw [List.take_of_length_le (l := A ++ [x]) (by simp; omega), List.take_of_length_le (l := A) (by omega)]
end Go.Proofs.Ytbpcgfplokkfpaa
