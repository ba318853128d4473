/- The reference's Scan, walked. -/
import Derived.Test.YthmpikbbkoblfaaScan
import Derived.Test.YthmpikbbkoblfaaRefF
namespace Go.Proofs.Ythmpikbbkoblfaa
open Go.RowKit
set_option linter.unusedVariables false
set_option linter.unusedSimpArgs false
attribute [local go_sem ↓] Go.wp_at_zero Go.wp_at_succ

set_option maxRecDepth 100000 in
set_option maxHeartbeats 1000000 in
theorem RScan_any (w : World) (v : Value) (l : List UInt8) (hv : RdB w v l) (hl : l.length ≤ 4398046511104) :
    Calls Try.prog 32 #[v] w (ScanEnd l w) := by
  have HV := hid hv
  obtain ⟨a, cap, rfl, h1, h2, h3, h4⟩ := id hv
  have h2 : cap ≤ 9223372036854775807 := by unfold maxLen at h2; omega
  clear h3 h4 hv
  have HN : Hid (OwnF w w.heap.size (.slice none 0 0) []) := OwnF.nil _ _
  go_enter Try.func32, Try.ntmps32
  go_wp2_with fail
  go_loopw [4, 5] (fun u at_ wr => ∃ k fs, k ≤ l.length ∧ at_ = .int .i64 (k : Nat) ∧ scanF l = (fs ++ (scanF (l.drop k)).1, k + (scanF (l.drop k)).2) ∧ fs.length * 6 ≤ k ∧ OwnF wr w.heap.size u fs ∧ Below w.heap.size w wr) (fun _ at_ _ => l.length - (intOf at_).toNat)
  case atStart => exact ⟨0, [], by omega, rfl, by simp, by simp, HN.out, Below.refl _ _⟩
  case round =>
    obtain ⟨k, fs, hk, rfl, heq, hf6, hown, hbel⟩ := hrel
    have HE := hid heq
    have HO := hid hown
    have hbs := hbel.size
    have HVr := hid (HV.out.below hbel)
    have HD := hid (RdB.drop HVr.out k hk)
    have hlen : (l.drop k).length = l.length - k := by simp
    rw [← hlen] at HD
    obtain ⟨af, cf, rfl⟩ := hown.slice
    clear heq hown
    by_cases he : (frameF (l.drop k)).e = 0
    · have hok := scanF_ok _ he
      obtain ⟨n1, n2⟩ := frameF_n _ he
      generalize hF : frameF (l.drop k) = F at he hok n1 n2
      obtain ⟨fk, fd, fn, fe⟩ := F
      dsimp only at he hok n1 n2
      subst he
      have HF := hid hF
      have HK := hid hok
      clear hF hok
      go_wp2_with (first | ((with_reducible refine at_slice ?_); go_must (refine wl_slice_l rfl rfl Try.underlying22 sizeU8 rfl rfl k rfl ?_ ?_; omega)) | (go_at_call 46; rw [← hlen]; go_must (refine (RFrame_any _ _ (l.drop k) HD.out (by omega)).mono ?_; rw [HF.out]; rintro e w8 ⟨dv, rfl, hod, hb8⟩; obtain ⟨da, dc, rfl⟩ := hod.slice; dsimp only at hod; have HOD := hid hod; have HO8 := hid (HO.out.below hb8); have hbel8 := hid (hbel.trans (hb8.mono hbs)); have hs8 := hb8.size; have HO9 := hid ((HO8.out.below ((Below.refl w8.heap.size w8).alloc (Nat.le_refl _) (.cells #[.int .u8 ((fk.toNat : Nat) : Int), .slice da fd.length dc] 31))).below ((Below.refl _ _).alloc (Nat.le_refl _) (.cells #[.int .u8 ((fk.toNat : Nat) : Int), .slice da fd.length dc] 31))); have HD9 := hid (((rdB_own HOD.out).alloc (.cells #[.int .u8 ((fk.toNat : Nat) : Int), .slice da fd.length dc] 31)).alloc (.cells #[.int .u8 ((fk.toNat : Nat) : Int), .slice da fd.length dc] 31)); have HS9 := hid (src_fr (w8.alloc (.cells #[.int .u8 ((fk.toNat : Nat) : Int), .slice da fd.length dc] 31)) (w8.heap.size + 1) fk (.slice da fd.length dc) (by simp) rfl); clear hod)) | (at_builtin; go_must (refine wl_appF rfl _ _ _ rfl w.heap.size _ fs rfl HO9.out _ fk (.slice da fd.length dc) fd rfl HS9.out HD9.out (fun hn b hb hv => by have h1 := (HOD.out.lt b hb).1; have h2 := (HO.out.lt b hv).2; omega) (by omega) (by simp; omega) ?_; intro v9 w9 k1 k4 k5 k6)))
      go_roundw
      case rel =>
        refine ⟨k + fn, fs ++ [(fk, fd)], by simp at n2; omega, by go_num, ?_, by simp; omega, k1, ?_⟩
        · rw [HE.out, HK.out, List.drop_drop]; simp [Nat.add_assoc]
        · exact (hbel8.out.alloc (by omega) _ |>.alloc (by simp; omega) _).trans k5
      case measure => simp [intOf]; simp at n2; omega
    · have hbad := scanF_bad _ he
      have hn0 := (frameF_bad _ he).1
      generalize hF : frameF (l.drop k) = F at he hn0
      obtain ⟨fk, fd, fn, fe⟩ := F
      dsimp only at he hn0
      subst hn0
      have HF := hid hF
      have HK := hid hbad
      clear hF hbad
      have he1 : ¬ ((fe : Int) = 0) := by omega
      have he2 : ((fe : Int) == 0) = false := by simp; omega
      have he3 : ((fe : Int) != 0) = true := by simp; omega
      go_wp2_with (first | ((with_reducible refine at_slice ?_); go_must (refine wl_slice_l rfl rfl Try.underlying22 sizeU8 rfl rfl k rfl ?_ ?_; omega)) | (go_at_call 46; rw [← hlen]; go_must (refine (RFrame_any _ _ (l.drop k) HD.out (by omega)).mono ?_; rw [HF.out]; rintro e w8 ⟨dv, rfl, hod, hb8⟩; obtain ⟨da, dc, rfl⟩ := hod.slice; dsimp only at hod; have HO8 := hid (HO.out.below hb8); have hbel8 := hid (hbel.trans (hb8.mono hbs)); have hs8 := hb8.size; clear hod)))
      go_ret2
      refine ⟨_, by rw [HE.out, HK.out]; rfl, ?_, hbel8.out.alloc (by omega) _⟩
      rw [HE.out, HK.out]
      simpa using HO8.out.below ((Below.refl _ _).alloc (Nat.le_refl _) _)
end Go.Proofs.Ythmpikbbkoblfaa
