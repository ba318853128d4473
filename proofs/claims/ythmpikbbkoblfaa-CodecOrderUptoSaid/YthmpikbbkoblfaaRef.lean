/- The reference's Put functions, walked. -/
import Derived.Test.YthmpikbbkoblfaaHelp
import Derived.Test.YthmpikbbkoblfaaFrameR
import Derived.BigRegion
namespace Go.Proofs.Ythmpikbbkoblfaa
open Go.RowKit
set_option linter.unusedVariables false
set_option linter.unusedSimpArgs false
attribute [local go_sem ↓] Go.wp_at_zero Go.wp_at_succ

set_option maxRecDepth 100000 in
set_option maxHeartbeats 400000 in
theorem RPutUint_any (w : World) (n : Nat) (hn : n ≤ 18446744073709551615) :
    Calls Try.prog 51 #[.int .u64 n] w (NewB (putU n) w) := by
  go_enter Try.func51, Try.ntmps51
  go_wp2
  have HN : Hid (OwnB w w.heap.size (.slice none 0 0) []) := World.ownsRow_nil _ _ _ _
  go_loopw [3, 0] (fun b x wr => ∃ f m bs, m ≤ 18446744073709551615 ∧ m < 2 * 128 ^ f ∧ bs ++ putUk f m = putU n ∧ x = .int .u64 (m : Nat) ∧ OwnB wr w.heap.size b bs ∧ Below w.heap.size w wr) (fun _ x _ => (intOf x).toNat)
  case atStart => exact ⟨9, n, [], hn, by omega, rfl, rfl, HN.out, Below.refl _ _⟩
  case round =>
    obtain ⟨f, m, bs, hm64, hm, heq, rfl, hb, hbel⟩ := hrel
    have HE := hid heq
    have hlen : bs.length + 1 ≤ 10 := by
      have h1 := congrArg List.length heq
      simp only [List.length_append] at h1
      have h2 := putUk_len f m
      have h3 := putU_len n
      omega
    clear heq
    have hbs := hbel.size
    by_cases hlt : m < 128
    · have Hs1 := hid (show ((m : Nat) : Int) = ((UInt8.ofNat m).toNat : Int) by rw [UInt8.toNat_ofNat', Nat.mod_eq_of_lt (by omega)])
      have hb' := own_belowS hb ((Below.refl _ _).alloc (Nat.le_refl _) (.cells #[.int .u8 m] 5))
      go_wp2_with (at_builtin; go_must (refine wl_appB rfl _ _ _ rfl w.heap.size u3 bs rfl (appB_own hb') _ [UInt8.ofNat m] rfl (src_one wr _ _ Hs1.out) ?_ ?_ ?_; (first | omega | (simp only [List.length_cons, List.length_nil, List.length_append, le32]; omega)); (first | omega | (simp only [World.alloc, Array.size_push]; omega)); intro v' w' k1 k2 k3 k4 k5 k6))
      go_ret
      refine ⟨v', rfl, ?_, hbel.trans (((Below.refl _ _).alloc hbs _).trans k5)⟩
      rw [← HE.out, putUk_small hlt]
      exact k2 (by simp)
    · have hf : ∃ f', f = f' + 1 := by
        cases f with
        | zero => simp at hm; omega
        | succ f' => exact ⟨f', rfl⟩
      obtain ⟨f', rfl⟩ := hf
      have Hs1 := hid (show (128 + (m : Int) % 128) = ((UInt8.ofNat (m % 128 + 128)).toNat : Int) by
        rw [UInt8.toNat_ofNat', Nat.mod_eq_of_lt (by omega)]; omega)
      have hb' := own_belowS hb ((Below.refl _ _).alloc (Nat.le_refl _) (.cells #[.int .u8 (128 + (m : Int) % 128)] 5))
      go_wp2_with (at_builtin; go_must (refine wl_appB rfl _ _ _ rfl w.heap.size u3 bs rfl (appB_own hb') _ [UInt8.ofNat (m % 128 + 128)] rfl (src_one wr _ _ Hs1.out) ?_ ?_ ?_; (first | omega | (simp only [List.length_cons, List.length_nil, List.length_append, le32]; omega)); (first | omega | (simp only [World.alloc, Array.size_push]; omega)); intro v' w' k1 k2 k3 k4 k5 k6))
      go_roundw
      case rel =>
        refine ⟨f', m / 128, bs ++ [UInt8.ofNat (m % 128 + 128)], by omega, ?_, ?_, ?_, k2 (by simp), hbel.trans (((Below.refl _ _).alloc hbs _).trans k5)⟩
        · rw [Nat.pow_succ] at hm; omega
        · rw [← HE.out, putUk_step hlt]; simp
        · go_num
      case measure => simp [intOf]; omega

theorem ownB_blk (w : World) (base g : Nat) (cells : Array Value) (l : List UInt8) (n : Nat) (hb : base ≤ w.heap.size) (hg : w.heap.size = g) (hn : n = l.length) (hm : n ≤ 9223372036854775807) (h : cells.toList = bvs l) :
    OwnB (w.alloc (.cells cells 5)) base (.slice (some ⟨g, 0, none⟩) n n) l := by
  subst hn hg
  have hs : cells.size = l.length := by rw [← Array.length_toList, h]; simp
  refine ⟨by simp, .inr ⟨_, _, cells, rfl, hb, heap_alloc_new _ _, Nat.le_refl _, by unfold maxLen; omega, by simpa using hs, ?_⟩⟩
  rw [h, List.take_of_length_le (by simp)]

def leK : Nat → Nat → List UInt8
  | 0, _ => []
  | k + 1, m => UInt8.ofNat m :: leK k (m / 256)
theorem leK_four (n : Nat) : leK 4 n = le32 n := by simp [leK, le32, Nat.div_div_eq_div_mul]
theorem leK_len (k : Nat) : ∀ n, (leK k n).length = k := by
  induction k with
  | zero => intro n; rfl
  | succ k ih => intro n; simp [leK, ih]

set_option maxRecDepth 100000 in
set_option maxHeartbeats 400000 in
theorem RPut32_any (w : World) (n : Nat) (hn : n ≤ 4294967295) :
    Calls Try.prog 57 #[.int .u32 n] w (NewB (le32 n) w) := by
  go_enter Try.func57, Try.ntmps57
  go_wp2
  have HN : Hid (OwnB w w.heap.size (.slice none 0 0) []) := World.ownsRow_nil _ _ _ _
  go_loopw [3, 0, 4] (fun b x i wr => ∃ k m bs, k ≤ 4 ∧ i = .int .i64 (k : Nat) ∧ m ≤ 4294967295 ∧ bs ++ leK (4 - k) m = le32 n ∧ x = .int .u32 (m : Nat) ∧ OwnB wr w.heap.size b bs ∧ Below w.heap.size w wr) (fun _ _ i _ => 4 - (intOf i).toNat)
  case atStart => exact ⟨0, n, [], by omega, rfl, hn, leK_four n, rfl, HN.out, Below.refl _ _⟩
  case round =>
    obtain ⟨k, m, bs, hk, rfl, hm, heq, rfl, hb, hbel⟩ := hrel
    have HE := hid heq
    have hlen : bs.length ≤ 4 := by
      have h1 := congrArg List.length heq
      simp only [List.length_append, leK_len, le32_length] at h1
      omega
    clear heq
    have hbs := hbel.size
    by_cases hlt : k < 4
    · have Hs1 := hid (show ((m : Int) % 256) = ((UInt8.ofNat m).toNat : Int) by rw [UInt8.toNat_ofNat']; omega)
      have hb' := own_belowS hb ((Below.refl _ _).alloc (Nat.le_refl _) (.cells #[.int .u8 ((m : Int) % 256)] 5))
      go_wp2_with (at_builtin; go_must (refine wl_appB rfl _ _ _ rfl w.heap.size u3 bs rfl (appB_own hb') _ [UInt8.ofNat m] rfl (src_one wr _ _ Hs1.out) ?_ ?_ ?_; (first | omega | (simp only [List.length_cons, List.length_nil, List.length_append, le32]; omega)); (first | omega | (simp only [World.alloc, Array.size_push]; omega)); intro v' w' k1 k2 k3 k4 k5 k6))
      go_roundw
      case rel =>
        refine ⟨k + 1, m / 256, bs ++ [UInt8.ofNat m], by omega, by go_num, by omega, ?_, ?_, k2 (by simp), hbel.trans (((Below.refl _ _).alloc hbs _).trans k5)⟩
        · rw [← HE.out, show 4 - k = (4 - (k + 1)) + 1 from by omega]; simp [leK]
        · go_num
      case measure => simp [intOf]; omega
    · obtain rfl : k = 4 := by omega
      go_wp2
      go_ret
      refine ⟨_, rfl, ?_, hbel⟩
      rw [← HE.out]
      simpa [leK] using hb

set_option maxRecDepth 100000 in
set_option maxHeartbeats 1000000 in
theorem RPutFrame_long (w : World) (kind : UInt8) (dv : Value) (data : List UInt8) (hd : RdB w dv data) (hlong : 2000 < data.length) :
    Calls Try.prog 22 #[.agg #[.int .u8 ((kind.toNat : Nat) : Int), dv]] w fun e w' => e = .returned (.tuple #[.slice none 0 0, .int .i64 12]) ∧ Below w.heap.size w w' := by
  obtain ⟨a, cap, rfl, h1, h2, h3, h4⟩ := id hd
  clear h4
  go_enter Try.func22, Try.ntmps22
  go_wp2
  go_ret2
  exact ⟨rfl, (Below.refl _ _).alloc (Nat.le_refl _) _⟩

set_option maxRecDepth 100000 in
set_option maxHeartbeats 1000000 in
theorem RPutFrame_any (w : World) (kind : UInt8) (dv : Value) (data : List UInt8) (hd : RdB w dv data) (hlong : data.length ≤ 2000) :
    Calls Try.prog 22 #[.agg #[.int .u8 ((kind.toNat : Nat) : Int), dv]] w fun e w' => ∃ v', e = .returned (.tuple #[v', .int .i64 0]) ∧ OwnB w' w.heap.size v' (putF kind data) ∧ Below w.heap.size w w' := by
  obtain ⟨a, cap, rfl, h1, h2, h3, h4⟩ := id hd
  clear h4
  go_enter Try.func22, Try.ntmps22
  go_wp2_with fail
  have hwr : IntKind.u64.wrap ((data.length : Nat) : Int) = (data.length : Int) := by rw [IntKind.wrap_u64]; omega
  have HD := hid (hd.alloc (.cells #[.int .u8 ((kind.toNat : Nat) : Int), .slice a data.length cap] 31)).drew
  have HK1 := hid (ownB_blk ((w.alloc (.cells #[.int .u8 ((kind.toNat : Nat) : Int), .slice a data.length cap] 31)).drew) (w.heap.size + 1) (w.heap.size + 1) #[.int .u8 ((kind.toNat : Nat) : Int)] [kind] 1 (by simp) (by simp) rfl (by omega) rfl)
  have hpl := putU_len data.length
  have HB0 := hid (((Below.refl w.heap.size w).alloc (Nat.le_refl _) (.cells #[.int .u8 ((kind.toNat : Nat) : Int), .slice a data.length cap] 31)).drew)
  go_region_held3 (fun w' => w'.cell? ⟨w.heap.size, 0, none⟩ = some (.int .u8 ((kind.toNat : Nat) : Int)) ∧ w'.cell? ⟨w.heap.size, 1, none⟩ = some (.slice a data.length cap)) (first | go_keep | exact ⟨(hb1.cell (p := ⟨w.heap.size, 0, none⟩) (by simp <;> omega)).trans (by simp [go_sem]), (hb1.cell (p := ⟨w.heap.size, 1, none⟩) (by simp <;> omega)).trans (by simp [go_sem])⟩ | (go_split_ands; exact ⟨(k5.cell (p := ⟨w.heap.size, 0, none⟩) (by simp)).trans (by assumption), (k5.cell (p := ⟨w.heap.size, 1, none⟩) (by simp)).trans (by assumption)⟩) | trivial) (first | (go_at_call 51; go_must (refine (RPutUint_any _ data.length (by omega)).mono ?_; rintro e w1 ⟨v1, rfl, ho1, hb1⟩; have hs1 := hb1.size; simp at hs1)) | ((with_reducible refine at_step_append ?_); refine step_appB rfl _ _ _ rfl (w.heap.size + 1) (.slice (some ⟨w.heap.size + 1, 0, none⟩) 1 1) [kind] rfl (appB_own (own_belowS HK1.out hb1)) _ (putU data.length) rfl (src_B (rdB_own ho1)) (by simp; omega) (by first | omega | (simp <;> omega)) ?_; intro v' w' k1 k2 k3 k4 k5 k6; have HR := hid (k2 (by omega)); have HB := hid ((HB0.out.alloc (by simp) _).trans ((hb1.mono (by simp; omega)).trans (k5.mono (by omega))))) | ((with_reducible refine at_step_append ?_); refine step_appB rfl _ _ _ rfl (w.heap.size + 1) (.slice (some ⟨w1.heap.size, 0, none⟩) 1 1) [kind] rfl (appB_own (ownB_blk w1 (w.heap.size + 1) w1.heap.size #[.int .u8 ((kind.toNat : Nat) : Int)] [kind] 1 (by omega) rfl rfl (by omega) rfl)) _ (putU data.length) rfl (src_B ((rdB_own ho1).alloc _)) (by simp; omega) (by first | omega | (simp <;> omega)) ?_; intro v' w' k1 k2 k3 k4 k5 k6; have HR := hid (k2 (by omega)); have HB := hid (((HB0.out.trans (hb1.mono (by simp))).alloc (by omega) _).trans (k5.mono (by omega)))))
  all_goals
    have HDw := hid (hd.below HB.out)
    have hs2 := HB.out.size
    have hs3 : w.heap.size + 1 ≤ w'.heap.size := by have := k5.size; first | omega | (simp at this; omega)
    have hrl := restF_length kind data
    have hsf := sumF_lt (restF kind data)
    clear k1 k2 k3 k4 k5 k6 hb1 HK1 HD HB0 ho1 hwr hs1
    go_wp2_with (first | (at_builtin; refine wl_appB rfl _ _ _ rfl (w.heap.size + 1) _ ([kind] ++ putU data.length) rfl (appB_own HR.out) _ data rfl (src_B HDw.out) (by simp; omega) (by omega) ?_; intro v2 w2 k1 k2 k3 k4 k5 k6; have HR2 := hid (show OwnB w2 (w.heap.size + 1) v2 (restF kind data) by have := k3 HR.out; rwa [show [kind] ++ putU data.length ++ data = restF kind data by simp [restF]] at this); have HB2 := hid (HB.out.trans (k5.mono (by omega))); have hs4 := k5.size; clear k1 k2 k3 k4 k5 k6) | (go_at_call 20; go_must (refine (RSum_any _ _ (restF kind data) (rdB_own HR2.out)).mono ?_; rintro e w3 ⟨rfl, rfl⟩)) | (go_at_call 57; go_must (refine (RPut32_any _ (sumF (restF kind data)) (by omega)).mono ?_; rintro e w3 ⟨v3, rfl, ho3, hb3⟩; have HR3 := hid (own_belowS HR2.out hb3); have hs5 := hb3.size; have HO3 := hid ho3; clear ho3)) | (at_builtin; go_must (refine wl_appB rfl _ _ _ rfl w2.heap.size v3 (le32 (sumF (restF kind data))) rfl (appB_own HO3.out) _ (restF kind data) rfl (src_B (rdB_own HR3.out)) ?_ ?_ ?_; (first | omega | (simp only [List.length_cons, List.length_nil, List.length_append, le32]; omega)); (first | omega | (simp only [World.alloc, Array.size_push]; omega)); intro v' w' k1 k2 k3 k4 k5 k6)))
    go_ret2
    exact ⟨v', rfl, OwnB.low (k3 HO3.out) (by omega), HB2.out.trans ((hb3.mono (by omega)).trans (k5.mono (by omega)))⟩

end Go.Proofs.Ythmpikbbkoblfaa
