/- super: Store, walked. -/
import Derived.Test.YtgbiffpnfpdcoaaSuD
namespace Go.Proofs.Ytgbiffpnfpdcoaa
open Go.RowKit Go.Maps
set_option linter.unusedVariables false
set_option linter.unusedSimpArgs false

/-- the count of the newest slot -/
def newC (X : Bo) : Int := if X.newest = 0 then X.s0.count else X.s1.count
def storeF (d : Dv) (n : Int) (data : List UInt8) : Int × Dv :=
  if wrongF d n ≠ 0 then (wrongF d n, d) else if 400 < data.length then (31, d) else if (bothF d n).err ≠ 0 then ((bothF d n).err, (bothF d n).dev) else if (bothF d n).newest < 0 then (30, (bothF d n).dev)
  else layF (bothF d n).dev (n + 1 - (bothF d n).newest) (newC (bothF d n) + 1).toNat data

theorem Store_nil (w : World) (n : Int) (v : Value) : Calls Try.prog 24 #[.pointer none, .int .i64 n, v] w fun e w' => e = .returned (.int .i64 1) ∧ w = w' := by
  go_enter Try.func24, Try.ntmps24
  go_wp2_with fail
  refine (wrong_nil _ _).mono ?_
  rintro e w1 ⟨rfl, rfl⟩
  go_wp2_with fail
  go_ret
  exact ⟨rfl, rfl⟩

set_option maxRecDepth 100000 in
set_option maxHeartbeats 1000000 in
theorem Store_any (w : World) (g : Nat) (ρ : Nat → Option DRol) (N : Nat) (d : Dv) (h : DvAt w g ρ N d) (hN : N ≤ 999999900) (n : Int) (hn : -9223372036854775808 ≤ n ∧ n ≤ 9223372036854775807) (v : Value) (data : List UInt8) (hv : RdB w v data) (hvb : 0 < data.length → ∀ k, v.ownBlock = some k → ρ k = none)
    (hcn : wrongF d n = 0 → 0 ≤ newC (bothF d n) ∧ newC (bothF d n) ≤ 999999999) :
    Calls Try.prog 24 #[.pointer (some ⟨g, 0, none⟩), .int .i64 n, v] w (WrEnd w g ρ (N + 5) (storeF d n data)) := by
  have hsz : d.safe.length ≤ 512 := by obtain ⟨_, _, _, h⟩ := h; exact h.size.2
  obtain ⟨va, vc, rfl⟩ := hv.slice'
  have HRL := hid (fun k (hk : ρ k ≠ none) => h.rlt k hk)
  have hrg : ρ g = some .dev := by obtain ⟨_, _, _, h⟩ := h; exact h.rg
  have HRG := hid hrg
  have H := hid h
  have HN := hid hn
  have HV := hid hv
  have HVB := hid hvb
  have HCN := hid hcn
  clear h hn hv hvb hcn hrg
  go_enter Try.func24, Try.ntmps24
  go_wp2_with fail
  refine (wrong_any w g ρ N d H.out n HN.out).mono ?_
  rintro e w1 ⟨rfl, rfl⟩
  by_cases hw : wrongF d n = 0
  · have hF := hid (show storeF d n data = if 400 < data.length then (31, d) else if (bothF d n).err ≠ 0 then ((bothF d n).err, (bothF d n).dev) else if (bothF d n).newest < 0 then (30, (bothF d n).dev)
      else layF (bothF d n).dev (n + 1 - (bothF d n).newest) (newC (bothF d n) + 1).toNat data by unfold storeF; rw [if_neg (by simpa using hw)])
    obtain ⟨hw1, hw2⟩ := wrongF_ok hw
    have HCN := hid (HCN.out hw)
    rw [hw]
    clear hw
    by_cases hl : 400 < data.length
    · have hF2 := hid (hF.out.trans (if_pos hl))
      go_wp2_with fail
      go_ret
      exact ⟨by rw [hF2.out]; rfl, ρ, by rw [hF2.out]; exact H.out.mono (by omega), Keep.refl _ _, fun k h => .inl h⟩
    · have hF2 := hid (hF.out.trans (if_neg hl))
      have hl1 : ¬ (400 : Int) < (data.length : Int) := by omega
      have hnew := bothF_new d n
      have hb := both_any w g ρ N d H.out (by omega) n (by omega)
      generalize bothF d n = X at hF2 hnew hb HCN
      clear hF
      go_wp2_with fail
      refine hb.mono ?_
      clear hb
      rintro e w2 ⟨v0, v1, rfl, hr0, hr1, hb0, hb1, hd2, hk2⟩
      obtain ⟨sa, sc, rfl⟩ := hr0.slice'
      obtain ⟨sb, sd, rfl⟩ := hr1.slice'
      have HD2 := hid hd2
      have HK2 := hid hk2
      clear hr0 hr1 hb0 hb1 hd2 hk2
      go_upto_region 7 with fail
      obtain ⟨wx, hwx⟩ : ∃ wx, wx = w2.alloc (.cells #[.bool X.s0.ok, .int .i64 X.s0.count, .slice sa X.s0.data.length sc, .bool X.s1.ok, .int .i64 X.s1.count, .slice sb X.s1.data.length sd] 96) := ⟨_, rfl⟩
      rw [← hwx]
      have hxx : Ext w2 wx := by rw [hwx]; exact (Ext.refl _).alloc _
      have hrx : wx.heap[w2.heap.size]? = some (.cells #[.bool X.s0.ok, .int .i64 X.s0.count, .slice sa X.s0.data.length sc, .bool X.s1.ok, .int .i64 X.s1.count, .slice sb X.s1.data.length sd] 96 (0, 0)) := by rw [hwx]; exact heap_alloc_new _ _
      clear hwx
      obtain ⟨z0, z1, z2, z3, z4, z5⟩ := row6 hrx
      have hkx : Keep (fun k => ρ k = none) w wx := (HK2.out.mono fun j hj _ e => by rw [e, HRG.out] at hj; simp at hj).trans (hxx.keep _)
      have HKX := hid hkx
      have HDX := hid (HD2.out.ext hxx)
      have HVX := hid (Rd.carry0 HV.out hkx.size fun hn k hk hl => hkx.block k (HVB.out hn k hk) hl)
      clear hxx hrx hkx HD2 HK2
      by_cases he : X.err = 0
      · have hF3 := hid (hF2.out.trans (if_neg (by simpa using he)))
        rw [he]
        clear he hF2
        rcases hnew with h | h | h
        · have hF4 := hid (hF3.out.trans (if_pos (by rw [h]; omega)))
          rw [h]
          clear h
          go_wp2_with fail
          go_ret
          exact ⟨by rw [hF4.out]; rfl, ρ, by rw [hF4.out]; exact HDX.out.mono (by omega), HKX.out, fun k h => .inl h⟩
        · have hF4 := hF3.out.trans (if_neg (by rw [h]; omega))
          have hcn := HCN.out
          have e1 : newC X = X.s0.count := if_pos h
          rw [e1] at hcn hF4
          rw [h] at hF4
          obtain ⟨q, hq⟩ : ∃ q : Nat, X.s0.count = (q : Int) := ⟨X.s0.count.toNat, by omega⟩
          rw [hq] at hcn hF4 z1
          rw [h]
          have hF5 := hid (show storeF d n data = layF X.dev (n + 1) (q + 1) data by rw [hF4, show n + 1 - 0 = n + 1 by omega, show ((q : Int) + 1).toNat = q + 1 by omega])
          have hq1 : q ≤ 999999999 := by omega
          have hwr1 : IntKind.i64.wrap (n + 1) = n + 1 := by rw [IntKind.wrap_i64]; omega
          have hwr2 : IntKind.i64.wrap ((q : Int) + 1) = (q : Int) + 1 := by rw [IntKind.wrap_i64]; omega
          clear h hF4 hcn e1 hF3 HCN hq
          go_wp2_with fail
          have hla := lay_any wx g ρ (N + 2) X.dev HDX.out (by omega) (n + 1) (by omega) (q + 1) (by omega) _ data HVX.out (by omega)
          rw [show ((q + 1 : Nat) : Int) = (q : Int) + 1 from by omega] at hla
          refine hla.mono ?_
          clear hla
          rintro e w7 ⟨rfl, ρ3, hd7, hk7, hr7⟩
          obtain ⟨h3, h4⟩ := wr_then (Ext.refl _) HKX.out (fun k h => .inl h) hk7 hr7
          have H3 := hid h3
          have H4 := hid h4
          have HD7 := hid hd7
          clear hk7 hr7 h3 h4 hd7
          go_wp2_with fail
          go_ret
          exact ⟨by rw [hF5.out]; rfl, ρ3, by rw [hF5.out]; exact HD7.out, H3.out, H4.out⟩
        · have hF4 := hF3.out.trans (if_neg (by rw [h]; omega))
          have hcn := HCN.out
          have e1 : newC X = X.s1.count := if_neg (by rw [h]; omega)
          rw [e1] at hcn hF4
          rw [h] at hF4
          obtain ⟨q, hq⟩ : ∃ q : Nat, X.s1.count = (q : Int) := ⟨X.s1.count.toNat, by omega⟩
          rw [hq] at hcn hF4 z4
          rw [h]
          have hF5 := hid (show storeF d n data = layF X.dev n (q + 1) data by rw [hF4, show n + 1 - 1 = n by omega, show ((q : Int) + 1).toNat = q + 1 by omega])
          have hq1 : q ≤ 999999999 := by omega
          have hwr1 : IntKind.i64.wrap (n + 1) = n + 1 := by rw [IntKind.wrap_i64]; omega
          have hwr3 : IntKind.i64.wrap n = n := by rw [IntKind.wrap_i64]; omega
          have hwr2 : IntKind.i64.wrap ((q : Int) + 1) = (q : Int) + 1 := by rw [IntKind.wrap_i64]; omega
          clear h hF4 hcn e1 hF3 HCN hq
          go_wp2_with fail
          have hla := lay_any wx g ρ (N + 2) X.dev HDX.out (by omega) (n) (by omega) (q + 1) (by omega) _ data HVX.out (by omega)
          rw [show ((q + 1 : Nat) : Int) = (q : Int) + 1 from by omega] at hla
          refine hla.mono ?_
          clear hla
          rintro e w7 ⟨rfl, ρ3, hd7, hk7, hr7⟩
          obtain ⟨h3, h4⟩ := wr_then (Ext.refl _) HKX.out (fun k h => .inl h) hk7 hr7
          have H3 := hid h3
          have H4 := hid h4
          have HD7 := hid hd7
          clear hk7 hr7 h3 h4 hd7
          go_wp2_with fail
          go_ret
          exact ⟨by rw [hF5.out]; rfl, ρ3, by rw [hF5.out]; exact HD7.out, H3.out, H4.out⟩
      · have hF3 := hid (hF2.out.trans (if_pos (by simpa using he)))
        clear hnew
        go_wp2_with fail
        go_ret
        exact ⟨by rw [hF3.out]; rfl, ρ, by rw [hF3.out]; exact HDX.out.mono (by omega), HKX.out, fun k h => .inl h⟩
  · have hF := hid (show storeF d n data = (wrongF d n, d) by unfold storeF; rw [if_pos (by simpa using hw)])
    generalize wrongF d n = e at hw hF
    go_wp2_with fail
    go_ret
    exact ⟨by rw [hF.out]; rfl, ρ, by rw [hF.out]; exact H.out.mono (by omega), Keep.refl _ _, fun k h => .inl h⟩
end Go.Proofs.Ytgbiffpnfpdcoaa
