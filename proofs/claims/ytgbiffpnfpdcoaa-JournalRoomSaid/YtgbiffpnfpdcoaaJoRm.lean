/- cartularylaw04.JournalRoom, walked. -/
import Derived.Test.YtgbiffpnfpdcoaaJ6
namespace Go.Proofs.Ytgbiffpnfpdcoaa
open Go.RowKit Go.Maps
set_option linter.unusedVariables false
set_option linter.unusedSimpArgs false

theorem zb_block : blockL 0 ⟨#[]⟩ = zb := by rw [blockL_empty]; rfl

set_option maxRecDepth 100000 in
set_option maxHeartbeats 2000000 in
theorem journalRoom_walk (w : World) (n0 : Int) (hn0 : -9223372036854775808 ≤ n0 ∧ n0 ≤ 9223372036854775807) (n : Int) (hn : -9223372036854775808 ≤ n ∧ n ≤ 9223372036854775807) :
    Calls Try.prog 14 #[.int .i64 n0, .int .i64 n] w fun e w' => e = .returned (.bool true) ∧ Below w.heap.size w w' := by
  have HN0 := hid hn0
  have HN := hid hn
  clear hn0
  go_enter Try.func14, Try.ntmps14
  go_wp2_with fail
  refine (awake04_any w).mono ?_
  rintro e w1 ⟨rfl, hx1⟩
  have HX1 := hid hx1
  clear hx1
  go_wp2_with fail
  refine (Pick_any _ n0 100 HN0.out (by omega) (by omega)).mono ?_
  rintro e w' ⟨rfl, rfl⟩
  have hr := pickF_lt n0 (100 : Int).toNat (by decide)
  generalize pickF n0 (100 : Int).toNat = r at hr ⊢
  have hr : r < 100 := hr
  obtain ⟨L, hL⟩ : ∃ L : Nat, (64 : Int) + (r : Int) = (L : Int) := ⟨64 + r, by omega⟩
  have hL1 : 64 ≤ L ∧ L ≤ 163 := by omega
  have hwL : IntKind.i64.wrap ((64 : Int) + (r : Int)) = (L : Int) := by rw [hL, IntKind.wrap_i64] <;> omega
  have hwL2 : IntKind.i64.wrap ((L : Int) - 20) = (L : Int) - 20 := by rw [IntKind.wrap_i64] <;> omega
  clear hL
  go_wp2_with fail
  refine (laid_any w1 L (by omega)).mono ?_
  rintro e w2 ⟨g, gl, ρ, d, rfl, hlog, hc⟩
  have HL := hid hlog
  have HC := hid hc
  clear hlog hc
  go_wp2_with fail
  refine (Size_any w2 gl g _ _ _ HL.out.log).mono ?_
  rintro e w3 ⟨rfl, rfl⟩
  by_cases hout : n < 0 ∨ (L : Int) - 20 ≤ n
  · have hjr := JRead_out HL.out.hm HC.out gl _ (by omega) 1 HL.out.log n hn hout
    have HJR := hid hjr
    have hjp := fun W hx va len vc => JPut_out (HL.out.hm.ext (W' := W) hx) HC.out gl _ (by omega) 1 (HL.out.log.ext hx) n hn hout va len vc
    have HJP := hid hjp
    have hcs : n < 0 ∨ (¬ n < 0 ∧ (L : Int) - 20 ≤ n) := by omega
    clear hjr hjp hout hn
    rcases hcs with h1 | ⟨h1, h2⟩
    all_goals
      go_wp2_with fail
      refine HJR.out.mono ?_
      rintro e w3 ⟨rfl, rfl⟩
      go_wp2_with fail
      refine (Block_any w2 0 (by omega) ⟨#[]⟩).mono ?_
      rintro e w3 ⟨rfl, -, hx3⟩
      have HX3 := hid hx3
      clear hx3
      go_wp2_with fail
      refine (HJP.out w3 HX3.out _ _ _).mono ?_
      rintro e w4 ⟨rfl, rfl⟩
      go_wp2_with fail
      go_ret
      exact ⟨rfl, HX1.out.trans (HL.out.hm.ex.trans HX3.out)⟩
  · have h1 : ¬ n < 0 := by omega
    have h2 : ¬ (L : Int) - 20 ≤ n := by omega
    have hrd := LRead HL.out HC.out (by omega) (by omega) n (by omega)
    have HRD := hid hrd
    clear hrd hout hn
    go_wp2_with fail
    refine HRD.out.mono ?_
    rintro e w3 ⟨k, rfl, hk, hrb, -, d3, hl3, -, -⟩
    have HB := hid hrb
    have HM3 := hid hl3.hm.ex
    clear hrb hl3
    go_wp2_with fail
    have hxd : Ext w3 w3.drew := by (· repeat (first | (with_reducible assumption) | exact Ext.refl _ | refine Ext.alloc ?_ _ | refine Ext.drew ?_ | refine Ext.drewN ?_ _ | (apply Ext.snart; (with_reducible assumption))))
    refine wp_region_T (fun w' => (convert 22 9 (.slice (some ⟨k, 0, none⟩) 512 512)).run Try.prog w' = .ok (.string ⟨zb.toArray⟩) w') [] (by kernel_rfl) (run_strB (HB.out.ext hxd)) (fun hS => ?_)
    (refine wpAnyT_take (i := 0) (v := ?_) rfl (by kernel_rfl) (by kernel_rfl) (by kernel_rfl) (by kernel_rfl) (fun _ _ _ h => h) (Or.inl ⟨by rfl, ?_⟩) (by assumption) ?_; rotate_left; ((intro wS hSw; (try dsimp only at hSw); (try simp only [List.getElem_toArray, List.getElem_cons_zero, List.getElem_cons_succ]); go_simp); (try with_reducible rfl)); (try simp only [Act.put, List.getElem_toArray, List.getElem_cons_zero, List.getElem_cons_succ, List.setIfInBounds_toArray, List.set_cons_zero, List.set_cons_succ]))
    (refine wpAnyT_take (i := 1) (v := ?_) rfl (by kernel_rfl) (by kernel_rfl) (by kernel_rfl) (by kernel_rfl) (fun _ _ _ h => h) (Or.inl ⟨by rfl, ?_⟩) (by assumption) ?_; rotate_left; ((intro wS hSw; (try dsimp only at hSw); (try simp only [List.getElem_toArray, List.getElem_cons_zero, List.getElem_cons_succ]); go_simp); (try with_reducible rfl)); (try simp only [Act.put, List.getElem_toArray, List.getElem_cons_zero, List.getElem_cons_succ, List.setIfInBounds_toArray, List.set_cons_zero, List.set_cons_succ]))
    (refine wpAnyT_take (i := 2) (v := ?_) rfl (by kernel_rfl) (by kernel_rfl) (by kernel_rfl) (by kernel_rfl) (fun _ _ _ h => h) (Or.inl ⟨by rfl, ?_⟩) (by assumption) ?_; rotate_left; ((intro wS hSw; (try dsimp only at hSw); (try simp only [List.getElem_toArray, List.getElem_cons_zero, List.getElem_cons_succ]); go_simp); (try with_reducible rfl)); (try simp only [Act.put, List.getElem_toArray, List.getElem_cons_zero, List.getElem_cons_succ, List.setIfInBounds_toArray, List.set_cons_zero, List.set_cons_succ]))
    (refine wpAnyT_take (i := 3) (v := ?_) rfl (by kernel_rfl) (by kernel_rfl) (by kernel_rfl) (by kernel_rfl) (fun _ _ _ h => h) (Or.inl ⟨by rfl, ?_⟩) (by assumption) ?_; rotate_left; ((intro wS hSw; (try dsimp only at hSw); (try simp only [List.getElem_toArray, List.getElem_cons_zero, List.getElem_cons_succ]); go_simp); (try with_reducible rfl)); (try simp only [Act.put, List.getElem_toArray, List.getElem_cons_zero, List.getElem_cons_succ, List.setIfInBounds_toArray, List.set_cons_zero, List.set_cons_succ]))
    (refine wpAnyT_take (i := 4) (v := ?_) rfl (by kernel_rfl) (by kernel_rfl) (by kernel_rfl) (by kernel_rfl) (fun _ _ _ h => h) (Or.inl ⟨by rfl, ?_⟩) (by assumption) ?_; rotate_left; ((intro wS hSw; (try dsimp only at hSw); (try simp only [List.getElem_toArray, List.getElem_cons_zero, List.getElem_cons_succ]); go_simp); (try with_reducible rfl)); (try simp only [Act.put, List.getElem_toArray, List.getElem_cons_zero, List.getElem_cons_succ, List.setIfInBounds_toArray, List.set_cons_zero, List.set_cons_succ]))
    refine wpAnyT_all (rs := [5]) (by kernel_rfl) (by decide) (AllT.consS rfl (fun K hK => ?_) AllT.nil)
    go_simp
    go_at_call 28
    refine (Block_any w3.drew 0 (by omega) ⟨#[]⟩).mono ?_
    rintro e w4 ⟨rfl, hr4, hx4⟩
    rw [zb_block] at hr4
    have hst := run_strB (show RdB w4 (.slice (some ⟨w3.heap.size, 0, none⟩) 512 512) zb from row_rdB hr4 zb_len)
    have HX4 := hid (hxd.trans hx4)
    clear hr4 hx4
    (refine hK.out _ _ (run_strB (HB.out.ext HX4.out)) (fun hS => ?_); clear hK K)
    refine wpAnyT_all (rs := [6]) (by kernel_rfl) (by decide) (AllT.consS rfl (fun K hK => ?_) AllT.nil)
    go_simp
    (refine hK.out _ _ (hS) (fun hS => ?_); clear hK K)
    refine wpAnyT_all (rs := [7]) (by kernel_rfl) (by decide) (AllT.consS rfl (fun K hK => ?_) AllT.nil)
    go_simp
    (refine hK.out _ _ (hS) (fun hS => ?_); clear hK K)
    refine wpAnyT_all (rs := [8]) (by kernel_rfl) (by decide) (AllT.consS rfl (fun K hK => ?_) AllT.nil)
    go_simp
    (refine hK.out _ _ (hS) (fun hS => ?_); clear hK K)
    refine wpAnyT_all (rs := [9]) (by kernel_rfl) (by decide) (AllT.consS rfl (fun K hK => ?_) AllT.nil)
    go_simp
    (refine hK.out _ _ (hS) (fun hS => ?_); clear hK K)
    refine wpAnyT_done (by kernel_rfl) (NoPanic.normal ?_) _
    go_wp2_with fail
    go_ret
    exact ⟨rfl, HX1.out.trans (HM3.out.trans HX4.out)⟩
end Go.Proofs.Ytgbiffpnfpdcoaa
