/- cartularylaw03.SuperHolds, walked. -/
import Derived.Test.YtgbiffpnfpdcoaaSuH
namespace Go.Proofs.Ytgbiffpnfpdcoaa
open Go.RowKit Go.Maps
set_option linter.unusedVariables false
set_option linter.unusedSimpArgs false

section
variable {w W : World} {g : Nat} {ρ : Nat → Option DRol} {N : Nat} {d : Dv}
theorem Mine.hd (h : Mine w W g ρ N d) {W' : World} {N' : Nat} {d' : Dv} (hd : DvAt W' g ρ N' d') (hk : Keep (fun k => k ≠ g) W W') : Mine w W' g ρ N' d' := by
  refine ⟨hd, h.nw, Keep.ext ?_⟩
  have h1 : Keep (fun k => k < w.heap.size) w W := h.ex.keep _
  exact (h1.trans (hk.mono fun k hk _ e => by have := h.gnw; omega)).mono fun k _ hl => hl
theorem MFuse (hm : Mine w W g ρ N d) (h : d.down = false) (k : Nat) (hk : k ≤ 1000000) (hr : ∀ n, d.pend n ≠ [] → 0 ≤ n ∧ n < d.safe.length) :
    Calls Try.prog 34 #[.pointer (some ⟨g, 0, none⟩), .int .i64 k] W fun e W' => e = .returned (.int .i64 0) ∧ ∃ d', Mine w W' g ρ N d' ∧ Same d d' ∧ Up d' ∧ d'.fuse = k := by
  refine (Fuse_any hm.dv (k : Int) (by omega)).mono ?_
  rintro e W' ⟨rfl, h1, h2⟩
  have h3 := hm.hd h1 h2
  have e1 : fuseF d k = (0, { d with fuse := k }) := by
    unfold fuseF
    rw [if_neg (by rw [h]; simp), show max (k : Int) (-1) = k by omega]
  rw [e1] at h3 ⊢
  exact ⟨rfl, _, h3, ⟨rfl, rfl⟩, ⟨h, by show (-1 : Int) ≤ (k : Int); omega, hr⟩, rfl⟩
theorem MCrashI (hm : Mine w W g ρ N d) (hN : N ≤ 999999000) (hl : d.safe.length = 64) (P : (Int → Bk) → Prop) (hP : ∀ s, Img d s → P s) (S : Nat → Prop) (v : Value) (picks : List Int) (hv : RdS rI W S v picks) (hS : ∀ k, S k → k < W.heap.size → ρ k = none) :
    Calls Try.prog 29 #[.pointer (some ⟨g, 0, none⟩), v] W fun e W' => e = .returned (.tuple #[]) ∧ ∃ d', Mine w W' g ρ N d' ∧ Qt d' ∧ P (curF d') ∧ Keep (fun k => ρ k = none) W W' := by
  refine (MCrash hm hN S v picks hv hS).mono ?_
  rintro e W' ⟨rfl, h1, h2⟩
  obtain ⟨h3, h4, h5, h6⟩ := crash_up d picks
  exact ⟨rfl, _, h1, ⟨up_calm h3 h5, h6.trans hl, h4⟩, hP _ (img_crash d picks), h2⟩
end
theorem kc5 (W : World) (a b c d e : Nat) : (convert 22 22 (.slice (some ⟨W.heap.size, 0, none⟩) 5 5)).run Try.prog (W.alloc (.cells #[.int .u8 a, .int .u8 b, .int .u8 c, .int .u8 d, .int .u8 e] 5)) = .ok (.slice (some ⟨W.heap.size, 0, none⟩) 5 5) (W.alloc (.cells #[.int .u8 a, .int .u8 b, .int .u8 c, .int .u8 d, .int .u8 e] 5 (5, 6))) := kc_any W W.heap.size _ 5 5 rfl
theorem first_row (W : World) : RdB (W.alloc (.cells #[.int .u8 102, .int .u8 105, .int .u8 114, .int .u8 115, .int .u8 116] 5 (5, 6))) (.slice (some ⟨W.heap.size, 0, none⟩) 5 5) [102, 105, 114, 115, 116] :=
  rdB_row (b := [102, 105, 114, 115, 116]) (heap_alloc_new _ _) 5 rfl (by omega)
set_option maxRecDepth 100000 in
set_option maxHeartbeats 4000000 in
theorem superHolds_any (w : World) (v0 : Value) (a : List UInt8) (ha : RdB w v0 a) (v1 : Value) (b : List UInt8) (hb : RdB w v1 b) (k : Int) (hk : -9223372036854775808 ≤ k ∧ k ≤ 9223372036854775807)
    (v3 : Value) (picks : List Int) (hp : RdS rI w (fun k => k < w.heap.size) v3 picks) (v4 : Value) (more : List Int) (hq : RdS rI w (fun k => k < w.heap.size) v4 more) :
    Calls Try.prog 13 #[v0, v1, .int .i64 k, v3, v4] w fun e w' => e = .returned (.bool true) ∧ Ext w w' := by
  obtain ⟨va, vc, rfl⟩ := ha.slice'
  obtain ⟨vb, vd, rfl⟩ := hb.slice'
  obtain ⟨pa, pc, rfl, -⟩ := hp.slice
  obtain ⟨ma, mc, rfl, -⟩ := hq.slice
  have HA := hid ha
  have HB := hid hb
  have HP := hid hp
  have HQ := hid hq
  have HK := hid hk
  clear ha hb hp hq hk
  go_enter Try.func13, Try.ntmps13
  go_wp2_with fail
  refine (sawake_any w).mono ?_
  rintro e w0 ⟨rfl, hx0⟩
  have HX0 := hid hx0
  have HA := hid (HA.out.ext hx0)
  have HB := hid (HB.out.ext hx0)
  have HP := hid ((HP.out.ext hx0).mono fun k h _ => Nat.lt_of_lt_of_le h hx0.size)
  have HQ := hid ((HQ.out.ext hx0).mono fun k h _ => Nat.lt_of_lt_of_le h hx0.size)
  clear hx0
  go_wp2_with fail
  refine (New64 w0).mono ?_
  rintro e w1 ⟨g, rfl, ρ, hm⟩
  have HM := hid hm
  clear hm
  by_cases h1 : 400 < a.length
  · have h1' : (400 : Int) < (a.length : Int) := by omega
    clear h1
    go_wp2_with fail
    go_ret
    exact ⟨rfl, HX0.out.trans HM.out.ex⟩
  by_cases h2 : 400 < b.length
  · have h1' : ¬ (400 : Int) < (a.length : Int) := by omega
    have h2' : (400 : Int) < (b.length : Int) := by omega
    clear h1 h2
    go_wp2_with fail
    go_ret
    exact ⟨rfl, HX0.out.trans HM.out.ex⟩
  have h1' : ¬ (400 : Int) < (a.length : Int) := by omega
  have h2' : ¬ (400 : Int) < (b.length : Int) := by omega
  have Q0 := hid Qt.new
  have hkc := kc5 w1 102 105 114 115 116
  rw [show ((102 : Nat) : Int) = 102 from rfl, show ((105 : Nat) : Int) = 105 from rfl, show ((114 : Nat) : Int) = 114 from rfl, show ((115 : Nat) : Int) = 115 from rfl, show ((116 : Nat) : Int) = 116 from rfl] at hkc
  go_wp2_with fail
  have hxa : Ext w1 (w1.alloc (.cells #[.int .u8 102, .int .u8 105, .int .u8 114, .int .u8 115, .int .u8 116] 5 (5, 6))) := by (· repeat (first | (with_reducible assumption) | exact Ext.refl _ | refine Ext.alloc ?_ _ | refine Ext.drew ?_ | refine Ext.drewN ?_ _ | (apply Ext.snart; (with_reducible assumption))))
  refine (MFormat (HM.out.ext hxa) (by omega) Q0.out.calm Q0.out.len 7 (by omega) _ [102, 105, 114, 115, 116] ⟨first_row w1, fun _ k hk => ?_⟩ (by simp)).mono ?_
  · simp only [Value.ownBlock, Option.some.injEq] at hk
    exact HM.out.late hxa (by omega)
  rintro e w2 ⟨rfl, ρ2, d2, hm2, q2, r2, -⟩
  have HM2 := hid hm2
  have Q2 := hid q2
  have R2 := hid r2
  clear hm2 q2 r2 hkc hxa
  go_wp2_with fail
  refine (MStore HM2.out (by omega) Q2.out.calm Q2.out.len 7 (by omega) 0 (by omega) _ R2.out _ a (HM2.out.arg HA.out) (by omega)).mono ?_
  rintro e w3 ⟨rfl, ρ3, d3, hm3, q3, r3, -⟩
  have HM3 := hid hm3
  have Q3 := hid q3
  have R3 := hid r3
  clear hm3 q3 r3
  go_wp2_with fail
  refine (Pick_any _ k 12 HK.out (by omega) (by omega)).mono ?_
  rintro e w' ⟨rfl, rfl⟩
  have hkk := pickF_lt k (12 : Int).toNat (by decide)
  generalize pickF k (12 : Int).toNat = kk at hkk ⊢
  have hkk' : kk < 12 := hkk
  clear hkk
  go_wp2_with fail
  refine (MFuse HM3.out Q3.out.calm.1 kk (by omega) Q3.out.calm.2.2).mono ?_
  rintro e w4 ⟨rfl, d4, hm4, s4, u4, f4⟩
  have hl4 : d4.safe.length = 64 := s4.len.trans Q3.out.len
  obtain ⟨hcn, hstore⟩ := store_up u4 (s4.still Q3.out.no) (n := 7) (by rw [hl4]; omega) (c := 1) (by omega) (x := a) (rec_of ((show RecI (curF d3) 7 1 a from R3.out).cur (s4.cur 7) (s4.cur 8))) (data := b) (by omega)
  have HM4 := hid hm4
  have HS4 := hid hstore
  have HL4 := hid hl4
  have HCN := hid hcn
  clear hm4 hstore hcn hl4 s4 u4 f4
  go_wp2_with fail
  refine (Store_any w4 g ρ3 _ d4 HM4.out.dv (by omega) 7 (by omega) _ b (HM4.out.arg HB.out).1 (HM4.out.arg HB.out).2 (fun _ => HCN.out)).mono ?_
  rintro e w5 ⟨rfl, ρ5, hd5, hk5, hr5⟩
  have hm5 := HM4.out.wr hd5 hk5 hr5
  have hsx : ∃ (h : Int) (dn : Bool) (d5 : Dv), storeF d4 7 b = (h, d5) ∧ d5.down = dn ∧ d5.safe.length = 64 ∧ (h = 0 ∧ dn = false ∧ (∀ s, Img d5 s → RecI s 7 2 b) ∨ h = 2 ∧ dn = true ∧ ∀ s, Img d5 s → RecI s 7 1 a ∨ RecI s 7 2 b) := by
    rcases HS4.out with ⟨d5, e1, u5, s5, l5, r5, -, -⟩ | ⟨-, d5, e1, u5, l5, i5⟩
    · refine ⟨0, false, d5, e1, u5.up, l5.trans HL4.out, .inl ⟨rfl, rfl, fun s hs => ?_⟩⟩
      have hk := img_still s5 hs
      exact recI_of r5 (hk 7 (by omega) (by rw [l5, HL4.out]; omega)) (hk 8 (by omega) (by rw [l5, HL4.out]; omega))
    · exact ⟨2, true, d5, e1, u5, l5.trans HL4.out, .inr ⟨rfl, rfl, fun s hs => (i5 s hs).1⟩⟩
  obtain ⟨h, dn, d5, eS, edn, hl5, hcase⟩ := hsx
  rw [eS] at hm5 ⊢
  dsimp only at hm5 ⊢
  have HM5 := hid hm5
  have HL5 := hid hl5
  have HDN := hid edn
  clear hm5 hd5 hk5 hr5 HS4 HCN HL4 eS hl5 edn
  have hcr : ∃ P : (Int → Bk) → Prop, (∀ s, Img d5 s → P s) ∧ ∀ s, P s → (h = 0 ∧ dn = false ∧ RecI s 7 2 b) ∨ (h = 2 ∧ dn = true ∧ RecI s 7 1 a) ∨ (h = 2 ∧ dn = true ∧ RecI s 7 2 b) := by
    rcases hcase with ⟨e1, e2, h⟩ | ⟨e1, e2, h⟩
    · exact ⟨_, h, fun s hs => .inl ⟨e1, e2, hs⟩⟩
    · refine ⟨_, h, fun s hs => ?_⟩
      rcases hs with hs | hs
      · exact .inr (.inl ⟨e1, e2, hs⟩)
      · exact .inr (.inr ⟨e1, e2, hs⟩)
  obtain ⟨P, hP1, hP2⟩ := hcr
  have HP1 := hid hP1
  have HP2 := hid hP2
  clear hcase hP1 hP2
  go_wp2_with fail
  refine (Down_any HM5.out.dv).mono ?_
  rintro e w5' ⟨rfl, rfl⟩
  rw [HDN.out]
  go_wp2_with fail
  refine (MCrashI HM5.out (by omega) HL5.out P HP1.out _ _ picks (HP.out.ext HM5.out.ex) (fun k hk _ => HM5.out.old k hk)).mono ?_
  rintro e w6 ⟨rfl, d6, hm6, q6, hp6, -⟩
  have hfin : ∃ (c : Nat) (x : List UInt8), RecI (curF d6) 7 c x ∧ (h = 0 ∧ dn = false ∧ c = 2 ∧ x = b ∨ h = 2 ∧ dn = true ∧ c = 1 ∧ x = a ∨ h = 2 ∧ dn = true ∧ c = 2 ∧ x = b) := by
    rcases HP2.out _ hp6 with ⟨e1, e2, h⟩ | ⟨e1, e2, h⟩ | ⟨e1, e2, h⟩
    · exact ⟨2, b, h, .inl ⟨e1, e2, rfl, rfl⟩⟩
    · exact ⟨1, a, h, .inr (.inl ⟨e1, e2, rfl, rfl⟩)⟩
    · exact ⟨2, b, h, .inr (.inr ⟨e1, e2, rfl, rfl⟩)⟩
  obtain ⟨c, x, r6, hfin⟩ := hfin
  have HM6 := hid hm6
  have Q6 := hid q6
  have R6 := hid (rec_of r6)
  have HFIN := hid hfin
  clear hm6 q6 hp6 r6 hfin HP1 HP2
  go_wp2_with fail
  refine (MLoad HM6.out (by omega) Q6.out.calm Q6.out.len 7 (by omega) c x R6.out).mono ?_
  rintro e w7 ⟨x7, rfl, hx7, hb7, -, d7, hm7, c7, l7, v7, p7⟩
  obtain ⟨xa, xc, rfl⟩ := hx7.slice'
  have HX7 := hid hx7
  have HB7 := hid hb7
  have HM7 := hid hm7
  have Q7 := hid (qt_load Q6.out c7 l7 p7)
  have R7 := hid (R6.out.cur (v7 7) (v7 8))
  clear hx7 hb7 hm7 c7 l7 v7 p7
  go_wp2_with fail
  refine (MCrash HM7.out (by omega) _ _ more (HQ.out.ext HM7.out.ex) (fun k hk _ => HM7.out.old k hk)).mono ?_
  rintro e w8 ⟨rfl, hm8, hk8⟩
  obtain ⟨q8, v8⟩ := crash_qt Q7.out more
  have r8 := R7.out.cur (v8 7 (by omega) (by omega)) (v8 8 (by omega) (by omega))
  generalize crashF d7 more = d8 at hm8 q8 r8 v8
  have HX8 := hid (show RdB w8 (.slice xa x.length xc) x from Rd.carry0 HX7.out hk8.size fun _ k hkk hl => hk8.block k (by
    by_cases e : ρ5 k = none
    · exact e
    · have h1 := HB7.out k hkk
      have h2 := HM6.out.dv.rlt k e
      omega) hl)
  have HM8 := hid hm8
  have Q8 := hid q8
  have R8 := hid r8
  clear hm8 q8 r8 v8 hk8
  go_wp2_with fail
  refine (MLoad HM8.out (by omega) Q8.out.calm Q8.out.len 7 (by omega) c x R8.out).mono ?_
  rintro e w9 ⟨x9, rfl, hx9, -, hk9, d9, hm9, -⟩
  obtain ⟨ya, yc, rfl⟩ := hx9.slice'
  have hs9 := run_strB hx9
  have hs7 := run_strB (show RdB w9 (.slice xa x.length xc) x from Rd.carry0 HX8.out hk9.size fun _ k hkk hl => hk9.block k (by have h1 := HB7.out k hkk; have h2 := HM6.out.glt; omega) hl)
  have hsa := run_strB (hm9.arg HA.out).1
  have hsb := run_strB (hm9.arg HB.out).1
  have HM9 := hid hm9
  clear hm9 hx9 hk9
  have hcs := HFIN.out
  clear HFIN
  have hRet := HX0.out.trans HM9.out.ex
  clear HM9 HX0
  rcases hcs with ⟨rfl, rfl, rfl, rfl⟩ | ⟨rfl, rfl, rfl, rfl⟩ | ⟨rfl, rfl, rfl, rfl⟩
  · by_cases hxy : x = a
    · subst hxy
      go_wp2_with fail
      go_ret
      exact ⟨rfl, hRet⟩
    · go_wp2_with fail
      go_ret
      exact ⟨rfl, hRet⟩
  · by_cases hxy : x = b
    · subst hxy
      go_wp2_with fail
      go_ret
      exact ⟨rfl, hRet⟩
    · go_wp2_with fail
      go_ret
      exact ⟨rfl, hRet⟩
  · by_cases hxy : x = a
    · subst hxy
      go_wp2_with fail
      go_ret
      exact ⟨rfl, hRet⟩
    · go_wp2_with fail
      go_ret
      exact ⟨rfl, hRet⟩
theorem superHolds_walk (w : World) (v0 : Value) (a : List UInt8) (ha : RdB w v0 a) (_ : a.length ≤ 140737488351232) (v1 : Value) (b : List UInt8) (hb : RdB w v1 b) (_ : b.length ≤ 140737488351232) (k : Int) (hk : -9223372036854775808 ≤ k ∧ k ≤ 9223372036854775807)
    (v3 : Value) (picks : List Int) (hp : RdS rI w (fun k => k < w.heap.size) v3 picks) (v4 : Value) (more : List Int) (hq : RdS rI w (fun k => k < w.heap.size) v4 more) :
    Calls Try.prog 13 #[v0, v1, .int .i64 k, v3, v4] w fun e w' => e = .returned (.bool true) ∧ Below w.heap.size w w' :=
  (superHolds_any w v0 a ha v1 b hb k hk v3 picks hp v4 more hq).mono fun e w' h => ⟨h.1, h.2.below⟩
end Go.Proofs.Ytgbiffpnfpdcoaa
