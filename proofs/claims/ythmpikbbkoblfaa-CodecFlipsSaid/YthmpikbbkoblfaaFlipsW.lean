/- CodecFlips, walked. -/
import Derived.Test.YthmpikbbkoblfaaSame
import Derived.Test.YthmpikbbkoblfaaSumsW
import Derived.Test.YthmpikbbkoblfaaLaw
import Derived.Outline
import Derived.BigRegion
namespace Go.Proofs.Ythmpikbbkoblfaa
open Go.RowKit
set_option linter.unusedVariables false
set_option linter.unusedSimpArgs false
attribute [local go_sem ↓] Go.wp_at_zero Go.wp_at_succ

set_option maxRecDepth 100000 in
set_option maxHeartbeats 1000000 in
theorem codecFlips_long (w : World) (c : Int) (hc : -9223372036854775808 ≤ c ∧ c ≤ 9223372036854775807) (vd : Value) (d : List UInt8) (hd : RdB w vd d) (szd : d.length ≤ 140737488351232) (b : Int) (hb : -9223372036854775808 ≤ b ∧ b ≤ 9223372036854775807) (hlong : 2000 < d.length) :
    Calls Try.prog 5 #[.int .i64 c, vd, .int .i64 b] w fun e w' => e = .returned (.bool true) ∧ Below w.heap.size w w' := by
  have HD := hid hd
  obtain ⟨ad, capd, rfl, i1, i2, i3, i4⟩ := id hd
  clear i2 i3 i4 hd
  have hk := pickF_lt c 256 (by omega)
  obtain ⟨kb, hkb⟩ : ∃ kb : UInt8, ((pickF c 256 : Nat) : Int) = ((kb.toNat : Nat) : Int) := ⟨UInt8.ofNat (pickF c 256), by rw [UInt8.toNat_ofNat', Nat.mod_eq_of_lt (by omega)]⟩
  have hk' : ((kb.toNat : Nat) : Int) % 256 = ((kb.toNat : Nat) : Int) := by have := kb.toNat_lt; omega
  have hl2 : decide (2000 < (d.length : Int)) = true := by simp; omega
  go_enter Try.func5, Try.ntmps5
  go_wp2_with (first | (go_at_call 15; refine (awake_any _).mono ?_; rintro e w1 ⟨rfl, hb1⟩; have HD1 := hid (HD.out.below hb1)) | (go_at_call 19; go_must (refine (Pick_any _ c 256 hc (by omega) (by omega)).mono ?_; rw [show (256 : Int).toNat = 256 from rfl, hkb]; rintro e w4 ⟨rfl, rfl⟩; have HD1b := hid (HD1.out.alloc (.cells #[.int .u8 ((kb.toNat : Nat) : Int), .slice ad d.length capd] 31)))) | (go_at_call 21; go_must (refine (PutFrame_long _ _ [] kb _ d HD1b.out hlong).mono ?_; rintro e w4 ⟨rfl, hb4⟩; have hs1 := hb1.size; have c14 := (hb4.cell (p := ⟨w1.heap.size, 1, none⟩) (by simp)).trans (by simp [go_sem] : _ = some (.slice ad d.length capd)))))
  go_ret
  exact ⟨by simp [Array.getD, hlong], (hb1.alloc hs1 _).trans (hb4.mono (by simp; omega))⟩

set_option maxRecDepth 100000 in
set_option maxHeartbeats 1000000 in
theorem codecFlips_good (w : World) (c : Int) (hc : -9223372036854775808 ≤ c ∧ c ≤ 9223372036854775807) (vd : Value) (d : List UInt8) (hd : RdB w vd d) (szd : d.length ≤ 140737488351232) (b : Int) (hb : -9223372036854775808 ≤ b ∧ b ≤ 9223372036854775807) (hlong : ¬ 2000 < d.length) :
    Calls Try.prog 5 #[.int .i64 c, vd, .int .i64 b] w fun e w' => e = .returned (.bool true) ∧ Below w.heap.size w w' := by
  have HD := hid hd
  obtain ⟨ad, capd, rfl, i1, i2, i3, i4⟩ := id hd
  clear i2 i3 i4 hd
  have hk := pickF_lt c 256 (by omega)
  obtain ⟨kb, hkb⟩ : ∃ kb : UInt8, ((pickF c 256 : Nat) : Int) = ((kb.toNat : Nat) : Int) := ⟨UInt8.ofNat (pickF c 256), by rw [UInt8.toNat_ofNat', Nat.mod_eq_of_lt (by omega)]⟩
  have hk' : ((kb.toNat : Nat) : Int) % 256 = ((kb.toNat : Nat) : Int) := by have := kb.toNat_lt; omega
  have hlen := putF_length kb d
  have hpl := putU_len d.length
  have hPl : (putF kb d).length ≤ 2015 ∧ 1 ≤ (putF kb d).length := by omega
  obtain ⟨m, hm⟩ : ∃ m, m = pickF b (8 * (putF kb d).length) := ⟨_, rfl⟩
  have hm8 : m < 8 * (putF kb d).length := by rw [hm]; exact pickF_lt _ _ (by omega)
  obtain ⟨q, r, hq, hr, hqr⟩ : ∃ q r : Nat, q < (putF kb d).length ∧ r < 8 ∧ m = 8 * q + r := ⟨m / 8, m % 8, by omega, by omega, by omega⟩
  obtain ⟨f1, f2⟩ := flipB_ok (putF kb d)[q] r hr
  have hbad := frameF_bad ((putF kb d).set q (flipB (putF kb d)[q] r))
  have hgood := frameF_flip kb d q (flipB (putF kb d)[q] r) hq f2
  generalize hF : frameF ((putF kb d).set q (flipB (putF kb d)[q] r)) = F at hbad hgood
  obtain ⟨fk, fd, fn, fe⟩ := F
  dsimp only at hbad hgood
  have HF := hid hF
  have HM := hid hm
  clear hF hm hlen hpl f2
  generalize hP : putF kb d = P at *
  have HP := hid hP
  clear hP
  generalize hx : P[q] = x at *
  have HX := hid hx
  clear hx
  have q1 : (m : Int).tdiv 8 = (q : Int) := by rw [Int.tdiv_eq_ediv_of_nonneg (by omega)]; omega
  have q2 : (m : Int).tmod 8 = (r : Int) := by rw [Int.tmod_eq_emod_of_nonneg (by omega)]; omega
  have j2 : (q : Int) < (P.length : Int) := by omega
  have j3 : (0 : Int) ≤ (q : Int) := by omega
  have j4 : (0 : Int) ≤ (r : Int) := by omega
  have j5 : (r : Int) < 8 := by omega
  have iw1 : IntKind.i64.wrap (q : Int) = q := by rw [IntKind.wrap_i64]; omega
  have iw2 : IntKind.i64.wrap (r : Int) = r := by rw [IntKind.wrap_i64]; omega
  have e8 : (8 * (P.length : Int)).toNat = 8 * P.length := by omega
  have HQR := hid hqr
  have Q12 := hid (And.intro q1 q2)
  have IW := hid (And.intro iw1 iw2)
  clear hqr q1 q2 iw1 iw2
  have HG : Hid (fe = 0 → fn ≤ P.length ∧ ¬ [(fk, fd)] = [(kb, d)]) := hgood
  have HBd : Hid (fe ≠ 0 → fn = 0 ∧ fk = 0 ∧ fd = []) := hbad
  clear hgood hbad
  have HF1 := hid f1
  clear f1
  go_enter Try.func5, Try.ntmps5
  go_wp2_with (first | (go_at_call 15; refine (awake_any _).mono ?_; rintro e w1 ⟨rfl, hb1⟩; have HD1 := hid (HD.out.below hb1)) | (go_at_call 19; have := TK; go_must (refine (Pick_any _ b (8 * (P.length : Int)) hb (by omega) (by omega)).mono ?_; rw [e8, ← HM.out]; rintro e w5 ⟨rfl, rfl⟩)) | (go_at_call 19; go_must (refine (Pick_any _ c 256 hc (by omega) (by omega)).mono ?_; rw [show (256 : Int).toNat = 256 from rfl, hkb]; rintro e w4 ⟨rfl, rfl⟩; have TK : Hid True := trivial; have HD1b := hid (HD1.out.alloc (.cells #[.int .u8 ((kb.toNat : Nat) : Int), .slice ad d.length capd] 31)))) | (go_at_call 21; go_must (refine (PutFrame_any _ _ [] kb _ d (Rd.nil _ _) HD1b.out (by omega) (by simp)).mono ?_; rw [List.nil_append, HP.out]; rintro e w4 ⟨v4, rfl, ho4, hb4⟩; obtain ⟨g, cap, hgc1, hgc2, hgc3, rfl⟩ := lent_split ho4 P.length rfl (by omega); have HO4 := hid ho4; have HD4 := hid (HD1b.out.below hb4); have hs1 := hb1.size; have hs4 := hb4.size; have c04 := (hb4.cell (p := ⟨w1.heap.size, 0, none⟩) (by simp)).trans (by simp [go_sem] : _ = some (.int .u8 ((kb.toNat : Nat) : Int))); have c14 := (hb4.cell (p := ⟨w1.heap.size, 1, none⟩) (by simp)).trans (by simp [go_sem] : _ = some (.slice ad d.length capd)); have C04 := hid c04; have C14 := hid c14; clear ho4 c04 c14)))
  have HKm := HQR.out
  obtain ⟨q1, q2⟩ := Q12.out
  obtain ⟨iw1, iw2⟩ := IW.out
  have hcell := HO4.out.cellAt q hq
  have hfr := HO4.out.frozenAt rfl q
  have hxq : P[q] = x := HX.out
  rw [hxq] at hcell
  have f1 := HF1.out
  clear HKm hxq
  go_region
  have HS := hid (OwnB.set HO4.out rfl q (flipB x r))
  have HR5 := hid (rdB_own HS.out).drew
  have hgb : w1.heap.size < g := by simp at hgc3; omega
  have HB5 := hid (hb4.setCell (p := ⟨g, q, none⟩) (by simp; omega) (bv (flipB x r))).drew
  have HW5 := hid (HB5.out.size)
  unfold bv at HR5 HB5 HW5
  generalize (w4.setCell ⟨g, q, none⟩ (.int .u8 (((flipB x r).toNat : Nat) : Int))).drew = w5 at *
  have hD5 := HD1b.out.below HB5.out
  have HD5 := hid hD5
  have c05 := (HB5.out.cell (p := ⟨w1.heap.size, 0, none⟩) (by simp)).trans (by simp [go_sem] : _ = some (.int .u8 ((kb.toNat : Nat) : Int)))
  have c15 := (HB5.out.cell (p := ⟨w1.heap.size, 1, none⟩) (by simp)).trans (by simp [go_sem] : _ = some (.slice ad d.length capd))
  have C05 := hid c05
  have C15 := hid c15
  have HB1 := hid ((hb1.alloc hs1 (.cells #[.int .u8 ((kb.toNat : Nat) : Int), .slice ad d.length capd] 31)).trans (HB5.out.mono (by simp; omega)))
  have hs5 := HW5.out
  simp only [World.alloc, Array.size_push] at hs5
  have hlP : (P.set q (flipB x r)).length = P.length := List.length_set
  have HlP := hid hlP
  have hsb : ∀ u : Bool, u = u := fun _ => rfl
  clear hcell hfr f1 hb4 HD4 HO4 HD1b C04 C14 hD5 c05 c15 hsb HS HW5 hlP q1 q2 iw1 iw2
  by_cases he : fe = 0
  · subst he
    obtain ⟨n1, n2⟩ := HG.out rfl
    have n1' : (fn : Int) ≤ (P.length : Int) := by omega
    have N2 := hid n2
    clear n2
    go_wp2_with (first | (go_at_call 23; go_must (refine (Frame_any _ _ (P.set q (flipB x r)) HR5.out (by simp; omega)).mono ?_; rw [HF.out]; rintro e w8 ⟨dv, rfl, hod, hb8⟩; obtain ⟨da, dc, rfl⟩ := hod.slice; have HOD := hid hod; have HD8 := hid (HD5.out.below hb8); have c08 := (hb8.cell (p := ⟨w1.heap.size, 0, none⟩) (by simp; omega)).trans C05.out; have c18 := (hb8.cell (p := ⟨w1.heap.size, 1, none⟩) (by simp; omega)).trans C15.out; have hs8 := hb8.size; dsimp only at HOD; have HF1 := hid (((rdF_blk (w8.alloc (.cells #[.int .u8 ((fk.toNat : Nat) : Int), .slice da fd.length dc] 31)) (w8.heap.size + 1) fk (.slice da fd.length dc) fd 31 ((rdB_own HOD.out).alloc _) (by simp)).alloc (.cells #[.int .u8 ((kb.toNat : Nat) : Int), .slice ad d.length capd] 31))); have HF2 := hid (rdF_blk ((w8.alloc (.cells #[.int .u8 ((fk.toNat : Nat) : Int), .slice da fd.length dc] 31)).alloc (.cells #[.int .u8 ((fk.toNat : Nat) : Int), .slice da fd.length dc] 31)) (w8.heap.size + 2) kb (.slice ad d.length capd) d 31 ((HD8.out.alloc _).alloc _) (by simp)); have hB2 := ((Below.refl w8.heap.size w8).alloc (Nat.le_refl _) (.cells #[.int .u8 ((fk.toNat : Nat) : Int), .slice da fd.length dc] 31)).alloc (by simp) (.cells #[.int .u8 ((fk.toNat : Nat) : Int), .slice da fd.length dc] 31); have c09 := (hB2.cell (p := ⟨w1.heap.size, 0, none⟩) (by simp; omega)).trans c08; have c19 := (hB2.cell (p := ⟨w1.heap.size, 1, none⟩) (by simp; omega)).trans c18; have m1 : ¬ w1.heap.size = w8.heap.size := (by omega); have m2 : ¬ w1.heap.size = w8.heap.size + 1 := (by omega); clear hod hB2)) | (go_at_call 24; go_must (refine (SameFrames_any _ _ _ [(fk, fd)] [(kb, d)] HF1.out HF2.out).mono ?_; rw [decide_eq_false N2.out]; rintro e w9 ⟨rfl, hb9⟩; have hB3 := hid (((((Below.refl w8.heap.size w8).alloc (Nat.le_refl _) (.cells #[.int .u8 ((fk.toNat : Nat) : Int), .slice da fd.length dc] 31)).alloc (by simp) (.cells #[.int .u8 ((fk.toNat : Nat) : Int), .slice da fd.length dc] 31)).alloc (by simp; omega) (.cells #[.int .u8 ((kb.toNat : Nat) : Int), .slice ad d.length capd] 31)).trans (hb9.mono (by simp; omega))))))
    go_ret
    exact ⟨rfl, HB1.out.trans ((hb8.mono (by omega)).trans (hB3.out.mono (by omega)))⟩
  · obtain ⟨rfl, rfl, rfl⟩ := HBd.out he
    have he1 : ¬ ((fe : Int) = 0) := by omega
    have he2 : ((fe : Int) == 0) = false := by simp; omega
    have he3 : ((fe : Int) != 0) = true := by simp; omega
    obtain ⟨sb, hsb⟩ : ∃ sb, sb = decide ([((0 : UInt8), ([] : List UInt8))] = [(kb, d)]) := ⟨_, rfl⟩
    have HSB := hid hsb
    clear hsb
    go_wp2_with (first | (go_at_call 23; go_must (refine (Frame_any _ _ (P.set q (flipB x r)) HR5.out (by simp; omega)).mono ?_; rw [HF.out]; rintro e w8 ⟨dv, rfl, hod, hb8⟩; obtain ⟨da, dc, rfl⟩ := hod.slice; have HOD := hid hod; have HD8 := hid (HD5.out.below hb8); have c08 := (hb8.cell (p := ⟨w1.heap.size, 0, none⟩) (by simp; omega)).trans C05.out; have c18 := (hb8.cell (p := ⟨w1.heap.size, 1, none⟩) (by simp; omega)).trans C15.out; have hs8 := hb8.size; dsimp only at HOD; have HF1 := hid (((rdF_blk (w8.alloc (.cells #[.int .u8 0, .slice da 0 dc] 31)) (w8.heap.size + 1) 0 (.slice da 0 dc) [] 31 ((rdB_own HOD.out).alloc _) (by simp)).alloc (.cells #[.int .u8 ((kb.toNat : Nat) : Int), .slice ad d.length capd] 31))); have HF2 := hid (rdF_blk ((w8.alloc (.cells #[.int .u8 0, .slice da 0 dc] 31)).alloc (.cells #[.int .u8 0, .slice da 0 dc] 31)) (w8.heap.size + 2) kb (.slice ad d.length capd) d 31 ((HD8.out.alloc _).alloc _) (by simp)); have hB2 := ((Below.refl w8.heap.size w8).alloc (Nat.le_refl _) (.cells #[.int .u8 0, .slice da 0 dc] 31)).alloc (by simp) (.cells #[.int .u8 0, .slice da 0 dc] 31); have c09 := (hB2.cell (p := ⟨w1.heap.size, 0, none⟩) (by simp; omega)).trans c08; have c19 := (hB2.cell (p := ⟨w1.heap.size, 1, none⟩) (by simp; omega)).trans c18; have m1 : ¬ w1.heap.size = w8.heap.size := (by omega); have m2 : ¬ w1.heap.size = w8.heap.size + 1 := (by omega); clear hod hB2)) | (go_at_call 24; go_must (refine (SameFrames_any _ _ _ [(0, [])] [(kb, d)] HF1.out HF2.out).mono ?_; rw [← HSB.out]; rintro e w9 ⟨rfl, hb9⟩; have hB3 := hid (((((Below.refl w8.heap.size w8).alloc (Nat.le_refl _) (.cells #[.int .u8 0, .slice da 0 dc] 31)).alloc (by simp) (.cells #[.int .u8 0, .slice da 0 dc] 31)).alloc (by simp; omega) (.cells #[.int .u8 ((kb.toNat : Nat) : Int), .slice ad d.length capd] 31)).trans (hb9.mono (by simp; omega))))))
    go_ret
    exact ⟨rfl, HB1.out.trans ((hb8.mono (by omega)).trans (hB3.out.mono (by omega)))⟩

theorem codecFlips_walk (w : World) (c : Int) (hc : -9223372036854775808 ≤ c ∧ c ≤ 9223372036854775807) (vd : Value) (d : List UInt8) (hd : RdB w vd d) (szd : d.length ≤ 140737488351232) (b : Int) (hb : -9223372036854775808 ≤ b ∧ b ≤ 9223372036854775807) :
    Calls Try.prog 5 #[.int .i64 c, vd, .int .i64 b] w fun e w' => e = .returned (.bool true) ∧ Below w.heap.size w w' := by
  by_cases h : 2000 < d.length
  · exact codecFlips_long w c hc vd d hd szd b hb h
  · exact codecFlips_good w c hc vd d hd szd b hb h

end Go.Proofs.Ythmpikbbkoblfaa
