/- The reference's PutUint, walked. -/
import Derived.Test.YtbpcgfplokkfpaaPutA
import Derived.Deep.RegionHeld3
import Derived.Deep.DrawnRows
namespace Go.Proofs.Ytbpcgfplokkfpaa
open Go.RowKit
set_option linter.unusedVariables false
set_option linter.unusedSimpArgs false
attribute [local go_sem ↓] Go.wp_at_zero Go.wp_at_succ

set_option maxRecDepth 100000 in
set_option maxHeartbeats 400000 in
theorem RPutUint_any (w : World) (n : Nat) (hn : n ≤ 18446744073709551615) :
    Calls Try.prog 80 #[.int .u64 n] w (NewB (putU n) w) := by
  go_enter Try.func80, Try.ntmps80
  go_wp2
  have HN : Hid (OwnB w w.heap.size (.slice none 0 0) []) := World.ownsRow_nil _ _ _ _
  go_loopw [3, 0] (fun b x wr => ∃ f m bs, m ≤ 18446744073709551615 ∧ m < 2 * 128 ^ f ∧ bs ++ putUk f m = putU n ∧ x = .int .u64 (m : Nat) ∧ OwnB wr w.heap.size b bs ∧ Below w.heap.size w wr) (fun _ x _ => (intOf x).toNat)
  case atStart => exact ⟨9, n, [], hn, by omega, rfl, rfl, HN.out, Below.refl _ _⟩
  case round =>
    obtain ⟨f, m, bs, hm64, hm, heq, rfl, hb, hbel⟩ := hrel
    have HE := hid heq
    have hlen : bs.length + 1 ≤ 10 := by
      have h1 := congrArg List.length heq
      simp only [List.length_append] at h1
      have h2 := putUk_len f m
      have h3 := putU_len n
      omega
    clear heq
    have hbs := hbel.size
    by_cases hlt : m < 128
    · have Hs1 := hid (show ((m : Nat) : Int) = ((UInt8.ofNat m).toNat : Int) by rw [UInt8.toNat_ofNat', Nat.mod_eq_of_lt (by omega)])
      have hb' := own_belowS hb ((Below.refl _ _).alloc (Nat.le_refl _) (.cells #[.int .u8 m] 5))
      go_wp2_with (at_builtin; go_must (refine wl_appB rfl _ _ _ rfl w.heap.size u3 bs rfl (appB_own hb') _ [UInt8.ofNat m] rfl (src_one wr _ _ Hs1.out) ?_ ?_ ?_; (first | omega | (simp only [List.length_cons, List.length_nil, List.length_append, le32]; omega)); (first | omega | (simp only [World.alloc, Array.size_push]; omega)); intro v' w' k1 k2 k3 k4 k5 k6))
      go_ret
      refine ⟨v', rfl, ?_, hbel.trans (((Below.refl _ _).alloc hbs _).trans k5)⟩
      rw [← HE.out, putUk_small hlt]
      exact k2 (by simp)
    · have hf : ∃ f', f = f' + 1 := by
        cases f with
        | zero => simp at hm; omega
        | succ f' => exact ⟨f', rfl⟩
      obtain ⟨f', rfl⟩ := hf
      have Hs1 := hid (show (128 + (m : Int) % 128) = ((UInt8.ofNat (m % 128 + 128)).toNat : Int) by
        rw [UInt8.toNat_ofNat', Nat.mod_eq_of_lt (by omega)]; omega)
      have hb' := own_belowS hb ((Below.refl _ _).alloc (Nat.le_refl _) (.cells #[.int .u8 (128 + (m : Int) % 128)] 5))
      go_wp2_with (at_builtin; go_must (refine wl_appB rfl _ _ _ rfl w.heap.size u3 bs rfl (appB_own hb') _ [UInt8.ofNat (m % 128 + 128)] rfl (src_one wr _ _ Hs1.out) ?_ ?_ ?_; (first | omega | (simp only [List.length_cons, List.length_nil, List.length_append, le32]; omega)); (first | omega | (simp only [World.alloc, Array.size_push]; omega)); intro v' w' k1 k2 k3 k4 k5 k6))
      go_roundw
      case rel =>
        refine ⟨f', m / 128, bs ++ [UInt8.ofNat (m % 128 + 128)], by omega, ?_, ?_, ?_, k2 (by simp), hbel.trans (((Below.refl _ _).alloc hbs _).trans k5)⟩
        · rw [Nat.pow_succ] at hm; omega
        · rw [← HE.out, putUk_step hlt]; simp
        · go_num
      case measure => simp [intOf]; omega

theorem ownB_blk (w : World) (base g : Nat) (cells : Array Value) (l : List UInt8) (n : Nat) (hb : base ≤ w.heap.size) (hg : w.heap.size = g) (hn : n = l.length) (hm : n ≤ 9223372036854775807) (h : cells.toList = bvs l) :
    OwnB (w.alloc (.cells cells 5)) base (.slice (some ⟨g, 0, none⟩) n n) l := by
  subst hn hg
  have hs : cells.size = l.length := by rw [← Array.length_toList, h]; simp
  refine ⟨by simp, .inr ⟨_, _, cells, rfl, hb, heap_alloc_new _ _, Nat.le_refl _, by unfold maxLen; omega, by simpa using hs, ?_⟩⟩
  rw [h, List.take_of_length_le (by simp)]

end Go.Proofs.Ytbpcgfplokkfpaa
