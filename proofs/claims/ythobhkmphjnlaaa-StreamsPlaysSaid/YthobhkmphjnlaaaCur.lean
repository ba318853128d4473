/- codec's reader of a batch in memory; take, text, number, walked. -/
import Derived.Test.YthobhkmphjnlaaaGet
import Derived.Test.YthobhkmphjnlaaaEv
namespace Go.Proofs.Ythobhkmphjnlaaa
open Go.RowKit
set_option linter.unusedVariables false
set_option linter.unusedSimpArgs false

theorem set_blk {w : World} {g o : Nat} {c : Array Value} {t : TypeId} {f : Nat × Nat} (h : w.heap[g]? = some (.cells c t f)) (u : Value) : (w.setCell ⟨g, o, none⟩ u).heap[g]? = some (.cells (c.setIfInBounds o u) t f) := by
  simp [World.setCell, Array.getElem?_modify, h]
theorem frozen_blk {w : World} {g : Nat} {c : Array Value} {t : TypeId} (h : w.heap[g]? = some (.cells c t (0, 0))) (o : Nat) : w.frozen? ⟨g, o, none⟩ = false := by simp [World.frozen?, h]
theorem RdB.kept {S : Nat → Prop} {w w' : World} {v : Value} {l : List UInt8} (h : RdB w v l) (hk : Keep S w w') (hS : 0 < l.length → ∀ k, v.ownBlock = some k → S k) : RdB w' v l :=
  Rd.carry0 h hk.size fun hn k hb hl => hk.block k (hS hn k hb) hl
/-- block g is a reader (of type T) at what is left, out of a block below B -/
def CurT (T : TypeId) (w : World) (g B : Nat) (st : St) : Prop :=
  ∃ v, w.heap[g]? = some (.cells #[v, .bool st.2] T (0, 0)) ∧ RdB w v st.1 ∧ (0 < st.1.length → ∀ k, v.ownBlock = some k → k < B) ∧ B ≤ g
section
variable {T : TypeId} {w w' : World} {g B : Nat} {st : St}
theorem CurT.keep {S : Nat → Prop} (h : CurT T w g B st) (hk : Keep S w w') (hg : S g) (hS : ∀ k, k < B → S k) : CurT T w' g B st := by
  obtain ⟨v, h1, h2, h3, h4⟩ := h
  have hl : g < w.heap.size := (Array.getElem?_eq_some_iff.1 h1).1
  exact ⟨v, by rw [hk.block g hg hl]; exact h1, h2.kept hk (fun hn k hb => hS k (h3 hn k hb)), h3, h4⟩
theorem CurT.ext (h : CurT T w g B st) (hx : Ext w w') : CurT T w' g B st := h.keep (hx.keep (fun _ => True)) trivial fun _ _ => trivial
theorem CurT.lt (h : CurT T w g B st) : g < w.heap.size := by
  obtain ⟨v, h1, _⟩ := h
  exact (Array.getElem?_eq_some_iff.1 h1).1
theorem CurT.bad (h : CurT T w g B st) : w.cell? ⟨g, 1, none⟩ = some (.bool st.2) := by
  obtain ⟨v, h1, _⟩ := h
  rw [cell_of_row _ _ _ _ _ _ h1]; rfl
end
abbrev CurC (w : World) (g B : Nat) (st : St) : Prop := CurT 119 w g B st

set_option maxRecDepth 100000 in
set_option maxHeartbeats 1000000 in
theorem take_any (w : World) (g B : Nat) (st : St) (n e : Nat) (h : CurC w g B st) (hn : e = 0 → n ≤ st.1.length) (hn2 : n ≤ 9223372036854775807) (he : e ≤ 1000) :
    Calls Try.prog 90 #[.pointer (some ⟨g, 0, none⟩), .int .i64 n, .int .i64 e] w fun en w' => en = .returned (.tuple #[]) ∧ CurC w' g B (tk st n e) ∧ Keep (fun k => k ≠ g) w w' := by
  obtain ⟨l, bad⟩ := st
  obtain ⟨v, h1, h2, h3, hBg⟩ := h
  dsimp only at h1 h2 h3 hn
  obtain ⟨a, cap, rfl, hc1, hc2, -, -⟩ := id h2
  have c0 : w.cell? ⟨g, 0, none⟩ = some (.slice a l.length cap) := by rw [cell_of_row _ _ _ _ _ _ h1]; rfl
  have f0 := frozen_blk h1 0
  have f1 := frozen_blk h1 1
  have hcI : cap ≤ 9223372036854775807 := by unfold maxLen at hc2; omega
  have HB := hid h1
  have HR := hid h2
  have HV := hid h3
  have hgw : g < w.heap.size := (Array.getElem?_eq_some_iff.1 h1).1
  have c1 : w.cell? ⟨g, 1, none⟩ = some (.bool bad) := by rw [cell_of_row _ _ _ _ _ _ h1]; rfl
  clear h1 h2 h3 hc2
  by_cases he0 : e = 0
  · subst he0
    have hnl := hn rfl
    have HD := hid (HR.out.drop n hnl)
    clear hn
    go_enter Try.func90, Try.ntmps90
    go_wp2_with ((with_reducible refine at_slice ?_); go_must (refine wl_slice_l rfl rfl Try.underlying54 sizeU8 rfl rfl n rfl ?_ ?_; omega))
    go_end0
    refine ⟨rfl, ?_, (Keep.refl _ w).setCell (by simp) _⟩
    exact ⟨_, set_blk HB.out _, HD.out.kept ((Keep.refl (fun k => k ≠ g) w).setCell (by simp) _) (fun hl k hk => by have := HV.out (by simp only [List.length_drop] at hl; omega) k (by rw [← hk]; exact cutAt_block.symm); omega), fun hl k hk => HV.out (by simp only [tk, if_true, List.length_drop] at hl; omega) k (by rw [← hk]; exact cutAt_block.symm), hBg⟩
  · have e0 : ((e : Int) == 0) = false := by rw [beq_eq_false_iff_ne]; omega
    have HD := hid (HR.out.drop l.length (Nat.le_refl _))
    have hld : l.drop l.length = [] := List.drop_length
    go_enter Try.func90, Try.ntmps90
    go_wp2_with ((with_reducible refine at_slice ?_); go_must (refine wl_slice_l rfl rfl Try.underlying54 sizeU8 rfl rfl l.length rfl ?_ ?_; omega))
    go_end0
    have htk : tk (l, bad) n e = ([], true) := by unfold tk; rw [if_neg he0]
    have hD := HD.out
    rw [hld, Nat.sub_self] at hD
    refine ⟨rfl, ?_, ((Keep.refl _ w).setCell (by simp) _).setCell (by simp) _⟩
    rw [htk]
    exact ⟨_, set_blk (set_blk HB.out _) _, hD.kept (((Keep.refl (fun k => k ≠ g) w).setCell (by simp) _).setCell (by simp) _) (fun hl => absurd hl (by simp)), fun hl => absurd hl (by simp), hBg⟩

theorem textF_facts (l : List UInt8) (most : Int) : (textF l most).2.1 ≤ l.length ∧ (textF l most).2.2 ≤ 12 := by
  have h := uintF_facts l
  unfold textF
  split
  · exact ⟨by dsimp only; omega, by dsimp only; omega⟩
  · split
    · exact ⟨by dsimp only; omega, by dsimp only; omega⟩
    · split
      · exact ⟨by dsimp only; omega, by dsimp only; omega⟩
      · refine ⟨?_, by dsimp only; omega⟩
        rename_i h1 h2 h3
        dsimp only; omega

set_option maxRecDepth 100000 in
set_option maxHeartbeats 1000000 in
theorem text_any (w : World) (g B : Nat) (st : St) (most : Nat) (h : CurC w g B st) (hm : most ≤ 1000000) (hl : st.1.length ≤ 9223372036854775807) :
    Calls Try.prog 63 #[.pointer (some ⟨g, 0, none⟩), .int .i64 most] w fun en w' => en = .returned (.string (rText most st).1) ∧ CurC w' g B (rText most st).2 ∧ Keep (fun k => k ≠ g) w w' := by
  have H := hid h
  obtain ⟨l, bad⟩ := st
  obtain ⟨v, h1, h2, h3, hBg⟩ := h
  dsimp only at h1 h2 h3 hl
  have c0 : w.cell? ⟨g, 0, none⟩ = some v := by rw [cell_of_row _ _ _ _ _ _ h1]; rfl
  obtain ⟨f1, f2⟩ := textF_facts l (most : Int)
  have HT := hid (show rText (most : Int) (l, bad) = (⟨(textF l (most : Int)).1.toArray⟩, tk (l, bad) (textF l (most : Int)).2.1 (textF l (most : Int)).2.2) from rfl)
  have HR := hid h2
  obtain ⟨U, HU⟩ : ∃ U, Hid (textF l (most : Int) = U) := ⟨_, hid rfl⟩
  rw [HU.out] at f1 f2 HT
  obtain ⟨x, n, e⟩ := U
  dsimp only at f1 f2 HT
  clear h1 h2 h3
  go_enter Try.func63, Try.ntmps63
  go_wp2_with (first | (go_at_call 89; go_must (refine (Text_any w v l (most : Int) (by omega) (by omega) HR.out).mono ?_; rw [HU.out]; rintro e w' ⟨rfl, rfl⟩)) | (go_at_call 90; go_must (refine (take_any w g B (l, bad) n e H.out (fun _ => f1) (by omega) (by omega)).mono ?_; rintro en w' ⟨rfl, HC, hk⟩; have HC := hid HC; have HK := hid hk; clear hk)))
  go_ret
  exact ⟨by rw [HT.out]; rfl, by rw [HT.out]; exact HC.out, HK.out⟩

set_option maxRecDepth 100000 in
set_option maxHeartbeats 1000000 in
theorem number_any (w : World) (g B : Nat) (st : St) (most : Nat) (h : CurC w g B st) (hm : most ≤ 9223372036854775807) (hl : st.1.length ≤ 9223372036854775807) :
    Calls Try.prog 64 #[.pointer (some ⟨g, 0, none⟩), .int .u64 most] w fun en w' => en = .returned (.int .i64 ((rNum most st).1 : Nat)) ∧ CurC w' g B (rNum most st).2 ∧ Keep (fun k => k ≠ g) w w' := by
  have H := hid h
  obtain ⟨l, bad⟩ := st
  obtain ⟨v, h1, h2, h3, hBg⟩ := h
  dsimp only at h1 h2 h3 hl
  have c0 : w.cell? ⟨g, 0, none⟩ = some v := by rw [cell_of_row _ _ _ _ _ _ h1]; rfl
  have hf := uintF_facts l
  have HR := hid h2
  have HN := hid (show rNum most (l, bad) = (if (tk (l, bad) (uintF l).2.1 (if most < (uintF l).1 then 12 else (uintF l).2.2)).2 then 0 else (uintF l).1, tk (l, bad) (uintF l).2.1 (if most < (uintF l).1 then 12 else (uintF l).2.2)) from rfl)
  obtain ⟨U, HU⟩ : ∃ U, Hid (uintF l = U) := ⟨_, hid rfl⟩
  rw [HU.out] at hf HN
  obtain ⟨n, k, e⟩ := U
  dsimp only at hf HN
  clear h1 h2 h3
  obtain ⟨E, hE⟩ : ∃ E, E = if most < n then 12 else e := ⟨_, rfl⟩
  rw [← hE] at HN
  have hE2 : E ≤ 12 := by rw [hE]; split <;> omega
  have hcases : (most < n ∧ E = 12) ∨ (¬ most < n ∧ E = e) := by
    by_cases h : most < n
    · left; exact ⟨h, by rw [hE, if_pos h]⟩
    · right; exact ⟨h, by rw [hE, if_neg h]⟩
  obtain ⟨S, HS⟩ : ∃ S, Hid (tk (l, bad) k E = S) := ⟨_, hid rfl⟩
  rw [HS.out] at HN
  have hbn : S.2 = false → n ≤ most := by
    intro h0
    by_cases h : most < n
    · have : E = 12 := by rw [hE, if_pos h]
      rw [← HS.out, this] at h0
      simp [tk] at h0
    · omega
  obtain ⟨r, b⟩ := S
  dsimp only at HN hbn
  have HBN := hid hbn
  clear hE hbn
  have hkl : k ≤ l.length := by omega
  rcases hcases with ⟨h1, rfl⟩ | ⟨h1, rfl⟩
  · cases b
    · have hn2 := HBN.out rfl
      exfalso; omega
    · simp only [if_true] at HN
      go_enter Try.func64, Try.ntmps64
      go_wp2_with (first | (go_at_call 46; go_must (refine (Uint_any w v l HR.out).mono ?_; rw [HU.out]; rintro e w' ⟨rfl, rfl⟩)) | (go_at_call 90; go_must (refine (take_any w g B (l, bad) k 12 H.out (fun _ => hkl) (by omega) (by omega)).mono ?_; rw [HS.out]; rintro en w' ⟨rfl, HC, hk⟩; have cb := CurT.bad HC; dsimp only at cb; have HC := hid HC; have HK := hid hk; clear hk)))
      go_ret
      exact ⟨by rw [HN.out]; rfl, by rw [HN.out]; exact HC.out, HK.out⟩
  · cases b
    · have hn2 := HBN.out rfl
      simp only [Bool.false_eq_true, if_false] at HN
      go_enter Try.func64, Try.ntmps64
      go_wp2_with (first | (go_at_call 46; go_must (refine (Uint_any w v l HR.out).mono ?_; rw [HU.out]; rintro e w' ⟨rfl, rfl⟩)) | (go_at_call 90; go_must (refine (take_any w g B (l, bad) k E H.out (fun _ => hkl) (by omega) (by omega)).mono ?_; rw [HS.out]; rintro en w' ⟨rfl, HC, hk⟩; have cb := CurT.bad HC; dsimp only at cb; have HC := hid HC; have HK := hid hk; clear hk)))
      go_ret
      exact ⟨by rw [HN.out]; rfl, by rw [HN.out]; exact HC.out, HK.out⟩
    · simp only [if_true] at HN
      go_enter Try.func64, Try.ntmps64
      go_wp2_with (first | (go_at_call 46; go_must (refine (Uint_any w v l HR.out).mono ?_; rw [HU.out]; rintro e w' ⟨rfl, rfl⟩)) | (go_at_call 90; go_must (refine (take_any w g B (l, bad) k E H.out (fun _ => hkl) (by omega) (by omega)).mono ?_; rw [HS.out]; rintro en w' ⟨rfl, HC, hk⟩; have cb := CurT.bad HC; dsimp only at cb; have HC := hid HC; have HK := hid hk; clear hk)))
      go_ret
      exact ⟨by rw [HN.out]; rfl, by rw [HN.out]; exact HC.out, HK.out⟩
end Go.Proofs.Ythobhkmphjnlaaa
