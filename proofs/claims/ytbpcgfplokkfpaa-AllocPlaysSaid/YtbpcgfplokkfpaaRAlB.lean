/- The document's map: Take, All, walked. -/
import Derived.Test.YtbpcgfplokkfpaaRAlA
import Derived.Test.YtbpcgfplokkfpaaRWhole
namespace Go.Proofs.Ytbpcgfplokkfpaa
open Go.RowKit
set_option linter.unusedVariables false
set_option linter.unusedSimpArgs false

def natI (l : List Nat) : List Int := l.map fun n : Nat => (n : Int)
theorem natI_len (l : List Nat) : (natI l).length = l.length := by simp [natI]
theorem natI_snoc (l : List Nat) (n : Nat) : natI (l ++ [n]) = natI l ++ [(n : Int)] := by simp [natI]
theorem freeBelow_len (now last : List Bool) (n : Nat) : (freeBelow now last n).length ≤ n := by
  unfold freeBelow
  have := List.length_filter_le (freeAt now last) (List.range n)
  rwa [List.length_range] at this
theorem freeBelow_take {now last : List Bool} {b n : Nat} (hb : b ≤ now.length) (h : n ≤ (freeBelow now last b).length) : (freeBelow now last b).take n = (freeIdx now last).take n := by
  obtain ⟨t, ht⟩ := freeBelow_prefix (now := now) (last := last) hb
  unfold freeIdx
  rw [← ht, List.take_append_of_le_length h]
theorem freeAt_taken {now last : List Bool} {b : Nat} (S : List Nat) (h : b ∉ S) : freeAt (setAll now S) last b = freeAt now last b := by
  rw [Bool.eq_iff_iff, freeAt_iff, freeAt_iff, setAll_get, if_neg (fun hh => h hh.1)]
theorem natI_in {l : List Nat} {m : Nat} (h : ∀ b ∈ l, b < m) (hm : m ≤ 512) : ∀ b ∈ natI l, 0 ≤ b ∧ b < 512 := by
  intro b hb
  obtain ⟨x, hx, rfl⟩ := List.mem_map.1 hb
  have := h x hx
  omega

set_option maxRecDepth 100000 in
set_option maxHeartbeats 2000000 in
theorem RTake_neg (w : World) (p : Option Addr) (n : Int) (hn : n < 0) :
    Calls Try.prog 32 #[.pointer p, .int .i64 n] w fun e w' => e = .returned (.tuple #[.slice none 0 0, .int .i64 1]) ∧ w = w' := by
  go_enter Try.func32, Try.ntmps32
  go_wp2_with fail
  go_ret2
  exact ⟨rfl, rfl⟩
set_option maxRecDepth 100000 in
set_option maxHeartbeats 2000000 in
theorem RTake_full (T : Nat → Prop) (w : World) (g : Nat) (now last : List Bool) (h : RMapAt T w g now last) (n : Int) (hn : ((freeIdx now last).length : Int) < n) (hnb : n ≤ 9223372036854775807) :
    Calls Try.prog 32 #[.pointer (some ⟨g, 0, none⟩), .int .i64 n] w fun e w' => e = .returned (.tuple #[.slice none 0 0, .int .i64 50]) ∧ w = w' := by
  have h0 : ¬ n < 0 := by omega
  have H := hid h
  clear h
  go_enter Try.func32, Try.ntmps32
  go_wp2_with fail
  refine (RFree_any T w g now last H.out).mono ?_
  rintro e w' ⟨rfl, rfl⟩
  go_wp2_with fail
  go_ret2
  exact ⟨rfl, rfl⟩
set_option maxRecDepth 100000 in
set_option maxHeartbeats 4000000 in
theorem RTake_ok (T : Nat → Prop) (w : World) (g : Nat) (now last : List Bool) (h : RMapAt T w g now last) (n : Nat) (hn : n ≤ (freeIdx now last).length) :
    Calls Try.prog 32 #[.pointer (some ⟨g, 0, none⟩), .int .i64 n] w fun e w' => ∃ v, e = .returned (.tuple #[v, .int .i64 0]) ∧ OwnR w' w.heap.size v (whole (natI ((freeIdx now last).take n))) ∧
      RMapAt T w' g (setAll now ((freeIdx now last).take n)) last ∧ Keep (fun k => ¬ T k) w w' := by
  have hfl := free_len now last
  have h0 : ¬ (n : Int) < 0 := by omega
  have hle : ¬ ((freeIdx now last).length : Int) < (n : Int) := by omega
  have H := hid h
  obtain ⟨vn, vl, h1, h2, h3, h4, h5, h6, h7, h8⟩ := h
  have hg := (Array.getElem?_eq_some_iff.1 h1).1
  obtain ⟨an, cn, rfl⟩ := h2.slice
  have c0 : w.cell? ⟨g, 0, none⟩ = some (.slice an now.length cn) := (cell_of_row _ _ 0 _ _ _ h1).trans rfl
  have H1 := hid h1
  have H2 := hid h2
  have H3 := hid h3
  have H4 := hid h4
  clear h1 h2 h3 h4
  obtain ⟨fr, hfr⟩ : ∃ fr, fr = (freeIdx now last).length := ⟨_, rfl⟩
  rw [← hfr] at hle hn hfl
  have HFR := hid hfr
  clear hfr
  go_enter Try.func32, Try.ntmps32
  go_wp2_with fail
  refine (RFree_any T w g now last H.out).mono ?_
  rw [← HFR.out]
  rintro e w' ⟨rfl, rfl⟩
  have hle2 : decide ((fr : Int) < (n : Int)) = false := decide_eq_false (by omega)
  have hle3 : decide (fr < n) = false := decide_eq_false (by omega)
  go_wp2_with fail
  go_loopw [6, 7] (fun u6 u7 wr => ∃ b : Nat, u7 = .int .i64 b ∧ b ≤ now.length ∧ OwnI wr w.heap.size u6 (natI ((freeBelow now last b).take n)) ∧ OwnS rBo 4 wr 0 (fun _ => False) (.slice an now.length cn) (setAll now ((freeBelow now last b).take n)) ∧ Keep (fun j => ¬ (Value.slice an now.length cn).ownBlock = some j ∧ j < w.heap.size) w wr) (fun _ u7 _ => now.length - (intOf u7).toNat)
  case atStart => exact ⟨0, rfl, by omega, by simpa [freeBelow_zero, natI] using OwnI.nil w _, by simpa [freeBelow_zero, setAll] using H2.out, Keep.refl _ _⟩
  case round =>
    obtain ⟨wo, rfl⟩ : ∃ wo : World, wo = wr := ⟨_, rfl⟩
    obtain ⟨b, rfl, hb, hu, hn8, hk⟩ := hrel
    obtain ⟨au, cu, rfl⟩ := OwnI.slice hu
    have hgn : ¬ (Value.slice an now.length cn).ownBlock = some g := fun e => (h7 g e).1 rfl
    have cg := hk.cell c0 ⟨hgn, hg⟩
    have HU := hid hu
    have HN8 := hid hn8
    have HK := hid hk
    have hbl := freeBelow_len now last b
    have hm : RMapAt T wo g (setAll now ((freeBelow now last b).take n)) last := ⟨_, _, (hk.block g ⟨hgn, hg⟩ hg).trans H1.out, hn8, H3.out.kept (hk.mono fun j hj _ => by rcases hj with h | h; exact h.elim; exact ⟨fun e => (h7 j e).2.1 h, (H3.out.lt j h).2⟩), by rw [setAll_len]; exact H4.out, by rw [setAll_len]; exact h5, h6, h7, h8⟩
    have HM := hid hm
    rw [natI_len]
    obtain ⟨L, hL⟩ : ∃ L, L = (freeBelow now last b).take n := ⟨_, rfl⟩
    rw [← hL] at HM HN8 HU ⊢
    have hLl : L.length = min n (freeBelow now last b).length := by rw [hL, List.length_take]
    have HL := hid hL
    clear hL hu hn8 hk hm
    by_cases hgo : b < now.length ∧ L.length < n
    · obtain ⟨hgo, hgo2⟩ := hgo
      have hb0 : (0 : Int) ≤ (b : Int) := by omega
      have hfull : L = freeBelow now last b := by rw [HL.out]; exact List.take_of_length_le (by omega)
      have hnin : b ∉ L := fun hin => by rw [hfull] at hin; have := (freeBelow_mem.1 hin).1; omega
      have HF := hid hfull
      have HLL := hid hLl
      have hLn : L.length ≤ 512 := by omega
      have hmay := rmay_any T wo g (setAll now L) last HM.out b (by rw [setAll_len]; exact hgo)
      rw [freeAt_taken L hnin] at hmay
      have HY := hid (freeBelow_yes (now := now) (last := last) (n := b))
      have HNO := hid (freeBelow_no (now := now) (last := last) (n := b))
      obtain ⟨gN, nc, cuN, en, -, hgN, hrN⟩ := HN8.out.head1 (by rw [setAll_len]; omega)
      rw [setAll_len] at en
      simp only [Value.slice.injEq] at en
      obtain ⟨rfl, -, rfl⟩ := en
      have HRN := hid hrN
      have HNIN := hid hnin
      rw [natI_len] at HU
      clear hfull hLl hnin hrN
      go_wp2_with fail
      refine hmay.mono ?_
      rintro e w' ⟨rfl, rfl⟩
      generalize freeAt now last b = f at HY HNO ⊢
      cases f
      · clear hmay
        go_wp2_with fail
        go_roundw
        case rel => exact ⟨b + 1, by go_num, by omega, by rw [HNO.out (by simp), ← HL.out]; exact HU.out, by rw [HNO.out (by simp), ← HL.out]; exact HN8.out, HK.out⟩
        case measure => simp [intOf]; omega
      · clear hmay
        have HS := hid (src_int wo wo.heap.size (b : Int) rfl)
        have HOA := hid (HU.out.ext ((Ext.refl wo).alloc (.cells #[.int .i64 (b : Int)] 3)))
        have hwsz := HK.out.size
        have hgnw := (H2.out.lt gN rfl).2
        go_wp2_with (at_builtin; go_must (refine wl_appI rfl _ _ _ rfl w.heap.size _ (natI L) rfl HOA.out _ [(b : Int)] rfl HS.out (by simp only [List.length_singleton, natI_len]; omega) (by simp; omega) ?_; intro v' w' k1 k4 k5 k6; have hkk : Keep (fun j => ¬ (Value.slice au L.length cu).ownBlock = some j) wo w' := ((Ext.refl wo).alloc (.cells #[.int .i64 (b : Int)] 3)).keep _ |>.trans ((keep_grown k4).mono fun j hj _ e => hj e.symm); have hgu : ¬ (Value.slice au L.length cu).ownBlock = some g := (fun e => by have := (HU.out.lt g e).1; omega); have hgu2 : ¬ (Value.slice au L.length cu).ownBlock = some gN := (fun e => by have := (HU.out.lt gN e).1; omega); have cg' := hkk.cell cg hgu; have hrN' := (hkk.block gN hgu2 hgN).trans HRN.out; have fz := frozen_blk hrN' b; have hn9 := HN8.out.kept (w' := w') (hkk.mono fun j hj _ e => by (rcases hj with h | h); exact h.elim; (simp only [Value.ownBlock, Option.map_some, Option.some.injEq] at h; subst h; exact hgu2 e)); obtain ⟨_, _, _, e9, _, _, z9⟩ := hn9.rdT.atB b (by rw [setAll_len]; exact hgo); simp only [Value.slice.injEq, Option.some.injEq, Addr.mk.injEq] at e9; obtain ⟨⟨rfl, rfl, _⟩, _, rfl⟩ := e9; rw [Nat.zero_add] at z9; have HN9 := hid hn9; clear hn9; have K1 := hid k1; have HKK := hid hkk; clear k1 k4 k5 k6 hkk hgu hgu2 hrN'))
        go_roundw
        case rel =>
          have e1 : (freeBelow now last (b + 1)).take n = L ++ [b] := by
            rw [HY.out (by simp), ← HF.out]
            exact List.take_of_length_le (by simp; omega)
          have hv' : ∀ k, v'.ownBlock = some k → k ≠ gN := fun k hk e => by have := (K1.out.lt k hk).1; omega
          refine ⟨b + 1, by go_num, by omega, ?_, ?_, ((HK.out.trans (HKK.out.mono fun j hj _ e => ?_)).setCell (p := ⟨gN, b, none⟩) (fun h => h.1 rfl) _)⟩
          · rw [e1, natI_snoc]
            exact K1.out.keep ((Keep.refl (fun j => j ≠ gN) w').setCell (p := ⟨gN, b, none⟩) (fun h => h rfl) _) hv'
          · rw [e1, setAll_snoc]
            exact HN9.out.set1 rfl b (by rw [setAll_len]; exact hgo) (.bool true) true rfl
          · have := (HU.out.lt j e).1
            have := hj.2
            omega
        case measure => simp [intOf]; omega
    · have hLe : L = (freeIdx now last).take n := by
        rw [HL.out]
        rcases Nat.lt_or_ge b now.length with h | h
        · exact freeBelow_take (by omega) (by omega)
        · obtain rfl : b = now.length := by omega
          rfl
      have hex : ¬ b < now.length ∨ (b < now.length ∧ ¬ L.length < n) := by omega
      have HLE := hid hLe
      have hLn : L.length ≤ 512 := by omega
      rw [natI_len] at HU
      have HIN := hid (show ∀ x ∈ L, x < now.length from fun x hx => by rw [hLe] at hx; exact (freeIdx_mem.1 (List.mem_of_mem_take hx)).1)
      clear hgo hLe hLl
      rcases hex with hex | ⟨hex, hex2⟩
      all_goals
        go_wp2_with fail
        refine (Whole_any _ _ (natI L) HU.out.rd (by rw [natI_len]; omega) (natI_in HIN.out h5)).mono ?_
        rintro e w9 ⟨v9, rfl, ho9, -, hb9⟩
        have hx9 : Ext wo w9 := hb9
        have HO9 := hid ho9
        have HX9 := hid hx9
        clear ho9 hb9 hx9
        go_wp2_with fail
        go_ret2
        refine ⟨v9, rfl, ?_, ?_, ?_⟩
        · rw [← HLE.out]; exact HO9.out.low HK.out.size
        · rw [← HLE.out]; exact HM.out.ext HX9.out
        · exact (HK.out.mono fun j hj hl => ⟨fun e => hj ((h7 j e).2.2), hl⟩).trans (HX9.out.keep _)
end Go.Proofs.Ytbpcgfplokkfpaa
