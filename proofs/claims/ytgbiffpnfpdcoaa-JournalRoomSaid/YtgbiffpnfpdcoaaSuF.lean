/- super: Format, walked. -/
import Derived.Test.YtgbiffpnfpdcoaaSuE
namespace Go.Proofs.Ytgbiffpnfpdcoaa
open Go.RowKit Go.Maps
set_option linter.unusedVariables false
set_option linter.unusedSimpArgs false

theorem makeZ (w : World) : (Instr.makeSlice 22 (.int .i64 512) (.int .i64 512)).run Try.prog w = .ok (.slice (some ⟨w.heap.size, 0, none⟩) 512 512) (w.alloc (.cells (bvs zb).toArray 5)) := by
  have h := run_make_row' (P := Try.prog) 22 5 (.int .u8 0) 1 Try.underlying22 infoU8 rfl .i64 .i64 512 (by omega) (by omega) w
  have e : madeCells #[Value.int .u8 0] 512 = (bvs zb).toArray := by
    apply Array.toList_inj.1
    rw [toList_madeCells_one, bvs_zb]
  rw [e] at h
  exact h

def formatF (d : Dv) (n : Int) (data : List UInt8) : Int × Dv :=
  if wrongF d n ≠ 0 then (wrongF d n, d) else if 400 < data.length then (31, d) else if (writeF d (n + 1) zb).1 ≠ 0 then writeF d (n + 1) zb
  else if (flushF (writeF d (n + 1) zb).2).1 ≠ 0 then flushF (writeF d (n + 1) zb).2 else layF (flushF (writeF d (n + 1) zb).2).2 n 0 data

theorem Format_nil (w : World) (n : Int) (v : Value) : Calls Try.prog 23 #[.pointer none, .int .i64 n, v] w fun e w' => e = .returned (.int .i64 1) ∧ w = w' := by
  go_enter Try.func23, Try.ntmps23
  go_wp2_with fail
  refine (wrong_nil _ _).mono ?_
  rintro e w1 ⟨rfl, rfl⟩
  go_wp2_with fail
  go_ret
  exact ⟨rfl, rfl⟩

set_option maxRecDepth 100000 in
set_option maxHeartbeats 1000000 in
theorem Format_any (w : World) (g : Nat) (ρ : Nat → Option DRol) (N : Nat) (d : Dv) (h : DvAt w g ρ N d) (hN : N ≤ 999999900) (n : Int) (hn : -9223372036854775808 ≤ n ∧ n ≤ 9223372036854775807) (v : Value) (data : List UInt8) (hv : RdB w v data) (hvb : 0 < data.length → ∀ k, v.ownBlock = some k → ρ k = none) :
    Calls Try.prog 23 #[.pointer (some ⟨g, 0, none⟩), .int .i64 n, v] w (WrEnd w g ρ (N + 6) (formatF d n data)) := by
  have hsz : d.safe.length ≤ 512 := by obtain ⟨_, _, _, h⟩ := h; exact h.size.2
  obtain ⟨va, vc, rfl⟩ := hv.slice'
  have HRL := hid (fun k (hk : ρ k ≠ none) => h.rlt k hk)
  have H := hid h
  have HN := hid hn
  have HV := hid hv
  have HVB := hid hvb
  clear h hn hv hvb
  go_enter Try.func23, Try.ntmps23
  go_wp2_with fail
  refine (wrong_any w g ρ N d H.out n HN.out).mono ?_
  rintro e w1 ⟨rfl, rfl⟩
  by_cases hw : wrongF d n = 0
  · have hF := hid (show formatF d n data = if 400 < data.length then (31, d) else if (writeF d (n + 1) zb).1 ≠ 0 then writeF d (n + 1) zb
      else if (flushF (writeF d (n + 1) zb).2).1 ≠ 0 then flushF (writeF d (n + 1) zb).2 else layF (flushF (writeF d (n + 1) zb).2).2 n 0 data by unfold formatF; rw [if_neg (by simpa using hw)])
    obtain ⟨hw1, hw2⟩ := wrongF_ok hw
    rw [hw]
    clear hw
    by_cases hl : 400 < data.length
    · have hF2 := hid (hF.out.trans (if_pos hl))
      go_wp2_with fail
      go_ret
      exact ⟨by rw [hF2.out]; rfl, ρ, by rw [hF2.out]; exact H.out.mono (by omega), Keep.refl _ _, fun k h => .inl h⟩
    · have hF2 := hid (hF.out.trans (if_neg hl))
      have hmk := makeZ
      have hl1 : ¬ (400 : Int) < (data.length : Int) := by omega
      have hwr : IntKind.i64.wrap (n + 1) = n + 1 := by rw [IntKind.wrap_i64]; omega
      go_wp2_with fail
      obtain ⟨wa, hwa⟩ : ∃ wa, wa = w.alloc (.cells (bvs zb).toArray 5) := ⟨_, rfl⟩
      have hxa : Ext w wa := by rw [hwa]; exact (Ext.refl _).alloc _
      have hra : wa.heap[w.heap.size]? = some (.cells (bvs zb).toArray 5 (0, 0)) := by rw [hwa]; exact heap_alloc_new _ _
      rw [← hwa]
      clear hwa hmk
      have hrd := rdB_row hra 512 zb_len.symm (by omega)
      refine (Write_any wa g ρ N d (H.out.ext hxa) (by omega) (n + 1) (by omega) _ zb hrd (fun k hk => ?_)).mono ?_
      · simp only [Value.ownBlock, Option.some.injEq] at hk
        by_cases h : ρ k = none
        · exact h
        · have := HRL.out k h; omega
      rintro e w5 ⟨rfl, ρ1, hd5, hk5, hr5⟩
      clear hra hrd
      by_cases hx : (writeF d (n + 1) zb).1 = 0
      · have hF3 := hid (hF2.out.trans (if_neg (by simpa using hx)))
        rw [hx]
        generalize (writeF d (n + 1) zb).2 = d5 at hd5 hF3
        have HD5 := hid hd5
        have HK5 := hid hk5
        have HR5 := hid hr5
        have HXA := hid hxa
        clear hd5 hk5 hr5 hx hxa hF hF2
        go_wp2_with fail
        refine (Flush_any w5 g ρ1 (N + 2) d5 HD5.out (by omega)).mono ?_
        rintro e w6 ⟨rfl, ρ2, hd6, hk6, hr6⟩
        obtain ⟨h1, h2⟩ := wr_then HXA.out HK5.out HR5.out hk6 hr6
        have H1 := hid h1
        have H2 := hid h2
        have HD6 := hid hd6
        clear hk6 hr6 h1 h2 hd6
        by_cases hy : (flushF d5).1 = 0
        · have hF4 := hid (hF3.out.trans (if_neg (by simpa using hy)))
          rw [hy]
          generalize (flushF d5).2 = d6 at HD6 hF4
          have hrd6 := hid (Rd.carry0 HV.out H1.out.size fun hn k hk hl => H1.out.block k (HVB.out hn k hk) hl)
          clear hy hF3
          go_wp2_with fail
          refine (lay_any w6 g ρ2 (N + 3) d6 HD6.out (by omega) n HN.out 0 (by omega) _ data hrd6.out (by omega)).mono ?_
          rintro e w7 ⟨rfl, ρ3, hd7, hk7, hr7⟩
          obtain ⟨h3, h4⟩ := wr_then (Ext.refl _) H1.out H2.out hk7 hr7
          have H3 := hid h3
          have H4 := hid h4
          have HD7 := hid hd7
          clear hk7 hr7 h3 h4 hd7
          go_wp2_with fail
          go_ret
          exact ⟨by rw [hF4.out]; rfl, ρ3, by rw [hF4.out]; exact HD7.out, H3.out, H4.out⟩
        · have hF4 := hid (hF3.out.trans (if_pos (by simpa using hy)))
          generalize flushF d5 = Y at HD6 hF4 hy
          obtain ⟨y, d6⟩ := Y
          dsimp only at HD6 hy
          clear hF3
          go_wp2_with fail
          go_ret
          exact ⟨by rw [hF4.out]; rfl, ρ2, by rw [hF4.out]; exact HD6.out.mono (by omega), H1.out, H2.out⟩
      · have hF3 := hid (hF2.out.trans (if_pos (by simpa using hx)))
        generalize writeF d (n + 1) zb = X at hd5 hF3 hx
        obtain ⟨x, d5⟩ := X
        dsimp only at hd5 hx
        have HD5 := hid hd5
        obtain ⟨h1, h2⟩ := wr_then hxa hk5 hr5 (Keep.refl _ _) (fun k h => .inl h)
        have H1 := hid h1
        have H2 := hid h2
        clear hd5 hk5 hr5 h1 h2 hF hF2 hxa
        go_wp2_with fail
        go_ret
        exact ⟨by rw [hF3.out]; rfl, ρ1, by rw [hF3.out]; exact HD5.out.mono (by omega), H1.out, H2.out⟩
  · have hF := hid (show formatF d n data = (wrongF d n, d) by unfold formatF; rw [if_pos (by simpa using hw)])
    generalize wrongF d n = e at hw hF
    go_wp2_with fail
    go_ret
    exact ⟨by rw [hF.out]; rfl, ρ, by rw [hF.out]; exact H.out.mono (by omega), Keep.refl _ _, fun k h => .inl h⟩
end Go.Proofs.Ytgbiffpnfpdcoaa
