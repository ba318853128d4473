/- cartularylaw03.SuperCounts, walked. -/
import Derived.Test.YtgbiffpnfpdcoaaSuR
import Derived.Test.YtgbiffpnfpdcoaaBdI
namespace Go.Proofs.Ytgbiffpnfpdcoaa
open Go.RowKit Go.Maps
set_option linter.unusedVariables false
set_option linter.unusedSimpArgs false

theorem RdS.atBs {w : World} {S : Nat → Prop} {v : Value} {xs : List (List UInt8)} (h : RdS rBs w S v xs) (i : Nat) (hi : i < xs.length) :
    ∃ g o cap u, v = .slice (some ⟨g, o, none⟩) xs.length cap ∧ g < w.heap.size ∧ S g ∧ w.cell? ⟨g, o + i, none⟩ = some u ∧ RdB w u xs[i] := by
  obtain ⟨g, o, cap, cs, rfl, hg, hS, _, hc, u, rfl, hu, _⟩ := h.at i hi
  refine ⟨g, o, cap, u, rfl, hg, hS, ?_, hu⟩
  have := hc 0 _ rfl
  simpa [rBs] using this

theorem crash_qt {d : Dv} (h : Qt d) (picks : List Int) : Qt (crashF d picks) ∧ ∀ j : Int, 0 ≤ j → j < 64 → curF (crashF d picks) j = curF d j := by
  refine ⟨⟨⟨rfl, rfl, fun n hn => absurd rfl hn⟩, by rw [crash_len]; exact h.len, fun _ => rfl⟩, fun j h0 h1 => ?_⟩
  obtain ⟨k, rfl⟩ : ∃ k : Nat, j = k := ⟨j.toNat, by omega⟩
  rw [crash_none d picks k (h.no _)]
  unfold curF
  rw [h.no]
  simp
section
variable {w W : World} {g : Nat} {ρ : Nat → Option DRol} {N : Nat} {d : Dv}
theorem Mine.cr (hm : Mine w W g ρ N d) {W' : World} {d' : Dv} (hd : DvAt W' g ρ N d') (hk : Keep (fun k => ρ k = none) W W') : Mine w W' g ρ N d' := hm.wr hd hk fun _ h => .inl h
/-- a crash: what the law was handed stays -/
theorem MCrash (hm : Mine w W g ρ N d) (hN : N ≤ 999999000) (S : Nat → Prop) (v : Value) (picks : List Int) (hv : RdS rI W S v picks) (hS : ∀ k, S k → k < W.heap.size → ρ k = none) :
    Calls Try.prog 29 #[.pointer (some ⟨g, 0, none⟩), v] W fun e W' => e = .returned (.tuple #[]) ∧ Mine w W' g ρ N (crashF d picks) ∧ Keep (fun k => ρ k = none) W W' := by
  refine (Crash_any W g ρ N d hm.dv (by omega) S v picks hv hS).mono ?_
  rintro e W' ⟨rfl, h1, h2⟩
  exact ⟨rfl, hm.cr h1 h2, h2⟩
/-- what lay there ahead of the device -/
theorem Mine.old (hm : Mine w W g ρ N d) (k : Nat) (h : k < w.heap.size) : ρ k = none := by
  by_cases e : ρ k = none
  · exact e
  · have := hm.nw k e; omega
theorem Mine.mono (hm : Mine w W g ρ N d) {N' : Nat} (h : N ≤ N') : Mine w W g ρ N' d := ⟨hm.dv.mono h, hm.nw, hm.ex⟩
theorem MStoreLong (hm : Mine w W g ρ N d) (hN : N ≤ 999999000) (hc : Calm d) (hl : d.safe.length = 64) (n : Int) (hn : 0 ≤ n ∧ n ≤ 62) (c : Nat) (hcc : c ≤ 999999999) (x : List UInt8) (hr : Rec d n c x) (v : Value) (data : List UInt8) (hv : RdB W v data ∧ (0 < data.length → ∀ k, v.ownBlock = some k → ρ k = none)) (hd : 400 < data.length) :
    Calls Try.prog 24 #[.pointer (some ⟨g, 0, none⟩), .int .i64 n, v] W fun e W' => e = .returned (.int .i64 31) ∧ ∃ ρ', Mine w W' g ρ' (N + 5) d := by
  obtain ⟨e0, -⟩ := store_rec hc hl hn hcc hr (data := []) (by simp)
  refine (Store_any W g ρ N d hm.dv (by omega) n (by omega) v data hv.1 hv.2 (fun _ => e0)).mono ?_
  rintro e W' ⟨rfl, ρ', h1, h2, h3⟩
  have h4 := hm.wr h1 h2 h3
  have e1 : storeF d n data = (31, d) := by
    unfold storeF
    rw [if_neg (by unfold wrongF; rw [hl, if_neg (by omega)]; simp), if_pos hd]
  rw [e1] at h4 ⊢
  exact ⟨rfl, ρ', h4⟩
theorem qt_load {d d' : Dv} (h : Qt d) (hc : Calm d') (hl : d'.safe.length = 64) (hp : d'.pend = d.pend) : Qt d' := ⟨hc, hl, fun n => by rw [hp]; exact h.no n⟩
end
theorem kc4 (W : World) (a b c d : Nat) : (convert 22 22 (.slice (some ⟨W.heap.size, 0, none⟩) 4 4)).run Try.prog (W.alloc (.cells #[.int .u8 a, .int .u8 b, .int .u8 c, .int .u8 d] 5)) = .ok (.slice (some ⟨W.heap.size, 0, none⟩) 4 4) (W.alloc (.cells #[.int .u8 a, .int .u8 b, .int .u8 c, .int .u8 d] 5 (4, 5))) := kc_any W W.heap.size _ 4 4 rfl
theorem anew_row (W : World) : RdB (W.alloc (.cells #[.int .u8 97, .int .u8 110, .int .u8 101, .int .u8 119] 5 (4, 5))) (.slice (some ⟨W.heap.size, 0, none⟩) 4 4) [97, 110, 101, 119] :=
  rdB_row (b := [97, 110, 101, 119]) (heap_alloc_new _ _) 4 rfl (by omega)

set_option maxRecDepth 100000 in
set_option maxHeartbeats 2000000 in
theorem superCounts_any (w : World) (v1 : Value) (l : List (List UInt8)) (hl : RdS rBs w (fun k => k < w.heap.size) v1 l) (v2 : Value) (picks : List Int) (hp : RdS rI w (fun k => k < w.heap.size) v2 picks) :
    Calls Try.prog 12 #[v1, v2] w fun e w' => e = .returned (.bool true) ∧ Ext w w' := by
  obtain ⟨va, vc, rfl, -⟩ := hl.slice
  obtain ⟨vb, vd, rfl, -⟩ := hp.slice
  have HL := hid hl
  have HP := hid hp
  clear hl hp
  go_enter Try.func12, Try.ntmps12
  go_wp2_with fail
  refine (sawake_any w).mono ?_
  rintro e w0 ⟨rfl, hx0⟩
  have HX0 := hid hx0
  have HL := hid ((HL.out.ext hx0).mono fun k h _ => Nat.lt_of_lt_of_le h hx0.size)
  have HP := hid ((HP.out.ext hx0).mono fun k h _ => Nat.lt_of_lt_of_le h hx0.size)
  clear hx0
  go_wp2_with fail
  refine (New64 w0).mono ?_
  rintro e w1 ⟨g, rfl, ρ, hm⟩
  have HM := hid hm
  clear hm
  have Q0 := hid Qt.new
  go_wp2_with fail
  refine (MFormat HM.out (by omega) Q0.out.calm Q0.out.len 20 (by omega) _ [] ⟨RdB.nil _, fun h => absurd h (by simp)⟩ (by simp)).mono ?_
  rintro e w2 ⟨rfl, ρ2, d2, hm2, q2, r2, -⟩
  have HM2 := hid hm2
  have Q2 := hid q2
  have R2 := hid r2
  clear hm2 q2 r2 HM
  go_wp2_with fail
  go_loopw [8, 9, 10] (fun u8 u9 u10 wr => ∃ (i c : Nat) (x : List UInt8) (ρ : Nat → Option DRol) (d : Dv), u8 = .int .i64 c ∧ u9 = .string ⟨x.toArray⟩ ∧ u10 = .int .i64 i ∧ c ≤ i ∧ i ≤ l.length ∧ i ≤ 40 ∧ Mine w0 wr g ρ (10 + 20 * i) d ∧ Qt d ∧ Rec d 20 c x) (fun _ _ u10 _ => 40 - (intOf u10).toNat)
  case atStart => exact ⟨0, 0, [], ρ2, d2, rfl, rfl, rfl, Nat.le_refl _, Nat.zero_le _, Nat.zero_le _, ⟨HM2.out.dv.mono (by omega), HM2.out.nw, HM2.out.ex⟩, Q2.out, R2.out⟩
  case round =>
    clear HM2 Q2 R2 Q0
    obtain ⟨wo, rfl⟩ : ∃ wo : World, wo = wr := ⟨_, rfl⟩
    obtain ⟨i, c, x, ρ, d, rfl, rfl, rfl, hci, hi, hi40, hm, q, r⟩ := hrel
    have HM := hid hm
    have Q := hid q
    have R := hid r
    clear hm q r
    by_cases hlt : i < l.length ∧ i < 40
    · obtain ⟨hlt, hlt2⟩ := hlt
      obtain ⟨gl, ol, cl, u, e, hgl, hgs, hc0, hu⟩ := HL.out.atBs i hlt
      simp only [Value.slice.injEq] at e
      obtain ⟨rfl, -, rfl⟩ := e
      have hc1 : wo.cell? ⟨gl, ol + i, none⟩ = some u := HM.out.ex.cellS hc0
      have hu1 := HM.out.arg hu
      generalize l[i] = y at hu hu1
      obtain ⟨ua, uc, rfl⟩ := hu.slice'
      have HU := hid hu
      have HU1 := hid hu1
      have HC0 := hid hc0
      have i1 : (i : Int) < (l.length : Int) := by omega
      have i2 : (i : Int) < 40 := by omega
      clear hu hu1 hc0
      have hgw : ∀ W, Ext w0 W → gl < W.heap.size := fun W hW => Nat.lt_of_lt_of_le hgl hW.size
      have HGW := hid hgw
      clear hgw
      have hi9 : ∀ (c' : Nat) (x' : List UInt8) (ρ' : Nat → Option DRol) (d' : Dv) (W : World), c' ≤ i + 1 → Mine w0 W g ρ' (10 + 20 * (i + 1)) d' → Qt d' → Rec d' 20 c' x' → ∃ (i2 c2 : Nat) (x2 : List UInt8) (ρ2 : Nat → Option DRol) (d2 : Dv), Value.int .i64 (c' : Int) = .int .i64 c2 ∧ Value.string ⟨x'.toArray⟩ = .string ⟨x2.toArray⟩ ∧ Value.int .i64 ((i : Int) + 1) = .int .i64 i2 ∧ c2 ≤ i2 ∧ i2 ≤ l.length ∧ i2 ≤ 40 ∧ Mine w0 W g ρ2 (10 + 20 * i2) d2 ∧ Qt d2 ∧ Rec d2 20 c2 x2 := fun c' x' ρ' d' W h1 h2 h3 h4 => ⟨i + 1, c', x', ρ', d', rfl, rfl, rfl, h1, by omega, by omega, h2, h3, h4⟩
      have HI9 := hid hi9
      clear hi9
      have hcc : c ≤ 999999999 := by omega
      by_cases hy : y.length ≤ 400
      · have hy1 : ((y.length : Int) ≤ 400) := by omega
        obtain ⟨c', hc'⟩ : ∃ c' : Nat, c' = c + 1 := ⟨_, rfl⟩
        have hwc : IntKind.i64.wrap ((c : Int) + 1) = (c' : Int) := by rw [IntKind.wrap_i64]; omega
        go_wp2_with fail
        refine (MStore HM.out (by omega) Q.out.calm Q.out.len 20 (by omega) c hcc x R.out _ y HU1.out hy).mono ?_
        rintro e w3 ⟨rfl, ρ3, d3, hm3, q3, r3, -⟩
        rw [← hc'] at r3
        have hc3 : w3.cell? ⟨gl, ol + i, none⟩ = some (.slice ua y.length uc) := hm3.ex.cellS HC0.out
        have hs3 := run_strB (hm3.arg HU.out).1
        have hgw3 : gl < w3.heap.size := HGW.out _ hm3.ex
        have HM3 := hid hm3
        have Q3 := hid q3
        have R3 := hid r3
        have HCP := hid hc'
        clear hm3 q3 r3 hc' HU1 HM Q R
        by_cases h3 : (i : Int) % 3 = 2
        · go_wp2_with fail
          refine (MCrash HM3.out (by omega) _ _ picks (HP.out.ext HM3.out.ex) (fun k hk _ => HM3.out.old k hk)).mono ?_
          rintro e w4 ⟨rfl, hm4, -⟩
          obtain ⟨q4, v4⟩ := crash_qt Q3.out picks
          have r4 := R3.out.cur (v4 20 (by omega) (by omega)) (v4 21 (by omega) (by omega))
          generalize crashF d3 picks = d4 at hm4 q4 r4 v4
          have HM4 := hid hm4
          have Q4 := hid q4
          have R4 := hid r4
          clear hm4 q4 r4 v4 hs3
          go_wp2_with fail
          refine (MLoad HM4.out (by omega) Q4.out.calm Q4.out.len 20 (by omega) c' y R4.out).mono ?_
          rintro e w5 ⟨x5, rfl, hx5, -, -, d5, hm5, c5, l5, v5, p5⟩
          obtain ⟨xa, xc, rfl⟩ := hx5.slice'
          have hs5 := run_strB hx5
          have HM5 := hid hm5
          have Q5 := hid (qt_load Q4.out c5 l5 p5)
          have R5 := hid (R4.out.cur (v5 20) (v5 21))
          clear hm5 c5 l5 v5 p5 hx5
          go_wp2_with fail
          exact ⟨HI9.out c' y ρ3 d5 _ (by have := HCP.out; omega) (HM5.out.mono (by omega)) Q5.out R5.out, by simp only [intOf]; omega⟩
        · have h3' : ((i : Int) % 3 == 2) = false := by simpa using h3
          go_wp2_with fail
          refine (MLoad HM3.out (by omega) Q3.out.calm Q3.out.len 20 (by omega) c' y R3.out).mono ?_
          rintro e w5 ⟨x5, rfl, hx5, -, -, d5, hm5, c5, l5, v5, p5⟩
          obtain ⟨xa, xc, rfl⟩ := hx5.slice'
          have hs5 := run_strB hx5
          have HM5 := hid hm5
          have Q5 := hid (qt_load Q3.out c5 l5 p5)
          have R5 := hid (R3.out.cur (v5 20) (v5 21))
          clear hm5 c5 l5 v5 p5 hx5
          go_wp2_with fail
          exact ⟨HI9.out c' y ρ3 d5 _ (by have := HCP.out; omega) (HM5.out.mono (by omega)) Q5.out R5.out, by simp only [intOf]; omega⟩
      · have hy1 : ¬ ((y.length : Int) ≤ 400) := by omega
        go_wp2_with fail
        refine (MStoreLong HM.out (by omega) Q.out.calm Q.out.len 20 (by omega) c hcc x R.out _ y HU1.out (by omega)).mono ?_
        rintro e w3 ⟨rfl, ρ3, hm3⟩
        have hc3 : w3.cell? ⟨gl, ol + i, none⟩ = some (.slice ua y.length uc) := hm3.ex.cellS HC0.out
        have hgw3 : gl < w3.heap.size := HGW.out _ hm3.ex
        have HM3 := hid hm3
        clear hm3 HU1 HM
        by_cases h3 : (i : Int) % 3 = 2
        · go_wp2_with fail
          refine (MCrash HM3.out (by omega) _ _ picks (HP.out.ext HM3.out.ex) (fun k hk _ => HM3.out.old k hk)).mono ?_
          rintro e w4 ⟨rfl, hm4, -⟩
          obtain ⟨q4, v4⟩ := crash_qt Q.out picks
          have r4 := R.out.cur (v4 20 (by omega) (by omega)) (v4 21 (by omega) (by omega))
          generalize crashF d picks = d4 at hm4 q4 r4 v4
          have HM4 := hid hm4
          have Q4 := hid q4
          have R4 := hid r4
          clear hm4 q4 r4 v4
          go_wp2_with fail
          refine (MLoad HM4.out (by omega) Q4.out.calm Q4.out.len 20 (by omega) c x R4.out).mono ?_
          rintro e w5 ⟨x5, rfl, hx5, -, -, d5, hm5, c5, l5, v5, p5⟩
          obtain ⟨xa, xc, rfl⟩ := hx5.slice'
          have hs5 := run_strB hx5
          have HM5 := hid hm5
          have Q5 := hid (qt_load Q4.out c5 l5 p5)
          have R5 := hid (R4.out.cur (v5 20) (v5 21))
          clear hm5 c5 l5 v5 p5 hx5
          go_wp2_with fail
          exact ⟨HI9.out c x ρ3 d5 _ (by omega) (HM5.out.mono (by omega)) Q5.out R5.out, by simp only [intOf]; omega⟩
        · have h3' : ((i : Int) % 3 == 2) = false := by simpa using h3
          go_wp2_with fail
          refine (MLoad HM3.out (by omega) Q.out.calm Q.out.len 20 (by omega) c x R.out).mono ?_
          rintro e w5 ⟨x5, rfl, hx5, -, -, d5, hm5, c5, l5, v5, p5⟩
          obtain ⟨xa, xc, rfl⟩ := hx5.slice'
          have hs5 := run_strB hx5
          have HM5 := hid hm5
          have Q5 := hid (qt_load Q.out c5 l5 p5)
          have R5 := hid (R.out.cur (v5 20) (v5 21))
          clear hm5 c5 l5 v5 p5 hx5
          go_wp2_with fail
          exact ⟨HI9.out c x ρ3 d5 _ (by omega) (HM5.out.mono (by omega)) Q5.out R5.out, by simp only [intOf]; omega⟩
    · have hex : ¬ (i : Int) < (l.length : Int) ∨ ((i : Int) < (l.length : Int) ∧ ¬ (i : Int) < 40) := by omega
      clear hlt
      have hkc := kc4 wo 97 110 101 119
      rw [show ((97 : Nat) : Int) = 97 from rfl, show ((110 : Nat) : Int) = 110 from rfl, show ((101 : Nat) : Int) = 101 from rfl, show ((119 : Nat) : Int) = 119 from rfl] at hkc
      rcases hex with i1 | ⟨i1, i2⟩
      all_goals
        go_wp2_with fail
        have hxa : Ext wo (wo.alloc (.cells #[.int .u8 97, .int .u8 110, .int .u8 101, .int .u8 119] 5 (4, 5))) := by (· repeat (first | (with_reducible assumption) | exact Ext.refl _ | refine Ext.alloc ?_ _ | refine Ext.drew ?_ | refine Ext.drewN ?_ _ | (apply Ext.snart; (with_reducible assumption))))
        refine (MFormat (HM.out.ext hxa) (by omega) Q.out.calm Q.out.len 20 (by omega) _ [97, 110, 101, 119] ⟨anew_row wo, fun _ k hk => ?_⟩ (by simp)).mono ?_
        · simp only [Value.ownBlock, Option.some.injEq] at hk
          exact HM.out.late hxa (by omega)
        rintro e w3 ⟨rfl, ρ3, d3, hm3, q3, r3, -⟩
        have HM3 := hid hm3
        have Q3 := hid q3
        have R3 := hid r3
        clear hm3 q3 r3 hkc hxa
        go_wp2_with fail
        refine (MLoad HM3.out (by omega) Q3.out.calm Q3.out.len 20 (by omega) 0 _ R3.out).mono ?_
        rintro e w5 ⟨x5, rfl, hx5, -, -, d5, hm5, -⟩
        obtain ⟨xa, xc, rfl⟩ := hx5.slice'
        have hs5 := run_strB hx5
        simp only [List.length_cons, List.length_nil, Nat.reduceAdd] at hs5
        have HM5 := hid hm5
        clear hm5 hx5
        go_wp2_with fail
        go_ret
        exact ⟨rfl, HX0.out.trans HM5.out.ex⟩
theorem superCounts_walk (w : World) (v1 : Value) (l : List (List UInt8)) (hl : RdS rBs w (fun k => k < w.heap.size) v1 l) (v2 : Value) (picks : List Int) (hp : RdS rI w (fun k => k < w.heap.size) v2 picks) :
    Calls Try.prog 12 #[v1, v2] w fun e w' => e = .returned (.bool true) ∧ Below w.heap.size w w' :=
  (superCounts_any w v1 l hl v2 picks hp).mono fun e w' h => ⟨h.1, h.2.below⟩
end Go.Proofs.Ytgbiffpnfpdcoaa
