/- The document's Whole, walked: blocks as runs. -/
import Derived.Test.YtbpcgfplokkfpaaNode
import Derived.Test.YtbpcgfplokkfpaaInts
namespace Go.Proofs.Ytbpcgfplokkfpaa
open Go.RowKit
set_option linter.unusedVariables false
set_option linter.unusedSimpArgs false

theorem whole_take_succ (L : List Int) (i : Nat) (h : i < L.length) : whole (L.take (i + 1)) = putR (whole (L.take i)) (L[i], 1) := by
  rw [List.take_succ_eq_append_getElem h, whole_snoc]

set_option maxRecDepth 100000 in
set_option maxHeartbeats 4000000 in
theorem Whole_any (w : World) (v : Value) (L : List Int) (h : RdI w v L) (hl : L.length ≤ 100000) (hb : ∀ b ∈ L, 0 ≤ b ∧ b < 512) :
    Calls Try.prog 61 #[v] w fun e w' => ∃ v', e = .returned v' ∧ OwnR w' w.heap.size v' (whole L) ∧ (L = [] → v' = .slice none 0 0) ∧ Below w.heap.size w w' := by
  have H := hid h
  have HB := hid hb
  obtain ⟨av, cv, rfl, hc1, hc2⟩ := h.slice
  clear h hb
  go_enter Try.func61, Try.ntmps61
  go_wp2_with fail
  go_loopw [3, 4] (fun u3 u4 wr => ∃ i : Nat, i ≤ L.length ∧ u4 = .int .i64 i ∧ OwnR wr w.heap.size u3 (whole (L.take i)) ∧ (L.take i = [] → u3 = .slice none 0 0) ∧ Ext w wr) (fun _ i _ => L.length - (intOf i).toNat)
  case atStart => exact ⟨0, by omega, rfl, by simpa [whole_nil] using OwnR.nil w _, fun _ => rfl, Ext.refl _⟩
  case round =>
    obtain ⟨i, hi, rfl, hown, hnil, hx⟩ := hrel
    have HOW := hid hown
    have HX := hid hx
    have hsz := hx.size
    have HNIL := hid hnil
    clear hown hnil
    have hwl := whole_len (L.take i)
    rw [List.length_take, Nat.min_eq_left hi] at hwl
    have HWI := hid (whole_in (m := 512) (fun b hb => HB.out b (List.mem_of_mem_take hb) : ∀ b ∈ L.take i, 0 ≤ b ∧ b < 512))
    by_cases hlt : i < L.length
    · obtain ⟨gl, ol, cl, e, hgl, c0⟩ := (H.out.ext hx).at i hlt
      simp only [Value.slice.injEq] at e
      obtain ⟨rfl, -, rfl⟩ := e
      have HST := hid (whole_take_succ L i hlt)
      have hne : ¬ L.take (i + 1) = [] := by intro e; have := congrArg List.length e; rw [List.length_take, Nat.min_eq_left (by omega)] at this; simp at this
      have HNE := hid hne
      have hbb := HB.out _ (List.getElem_mem hlt)
      clear hx hne
      generalize L[i] = b at c0 HST hbb
      generalize hA : whole (L.take i) = acc at *
      have HA := hid hA
      clear hA
      rcases snoc_cases acc with rfl | ⟨ys, kr, rfl⟩
      · have g1 : decide ((0 : Int) - 1 ≥ 0) = false := by decide
        obtain ⟨a9, c9, rfl, -⟩ := HOW.out.rd.slice
        go_wp2_with fail
        go_quiet (fail)
        have HS := hid (src_run (wr.drewN nq) (wr.drewN nq).heap.size (b, 1) rfl)
        have HOA := hid (HOW.out.ext (((Ext.refl wr).drewN nq).alloc (.cells #[.int .i64 b, .int .i64 1] 43)))
        go_wp2_with (at_builtin; go_must (refine wl_appR rfl _ _ _ rfl w.heap.size (.slice a9 0 c9) [] rfl HOA.out _ [(b, 1)] rfl HS.out (by simp) (by simp; omega) ?_; intro v' w' k1 k4 k5 k6))
        go_roundw
        case rel => exact ⟨i + 1, by omega, by go_num, by rw [HST.out]; exact k1, fun e => absurd e HNE.out, Below.trans ((HX.out.drewN nq).alloc _) k5⟩
        case measure => simp [intOf]; omega
      · have hn : (ys ++ [kr]).length = ys.length + 1 := by simp
        obtain ⟨gr, cr, e, hbg, hg, c0', c1', f0', f1'⟩ := HOW.out.at ys.length (by omega)
        have ek : (ys ++ [kr])[ys.length]'(by omega) = kr := by simp
        rw [ek] at c0' c1'
        have hk := HWI.out kr (by simp)
        obtain ⟨kf, kl⟩ := kr
        dsimp only at c0' c1' hk
        obtain ⟨hk1, hk2, hk3⟩ := hk
        have e1 : IntKind.i64.wrap (kf + kl) = kf + kl := IntWalk.i64_in _ (by omega)
        have e2 : IntKind.i64.wrap (kl + 1) = kl + 1 := IntWalk.i64_in _ (by omega)
        obtain rfl := e
        have hys : ys.length ≤ 100000 := by omega
        have hput := putR_snoc ys (kf, kl) (b, 1)
        dsimp only at hput
        rw [hn] at HOW ⊢
        have HP := hid hput
        have HN := hid hn
        clear hn ek hput
        generalize hyl : ys.length = my at *
        have HM := hid hyl
        clear hyl
        have i1 : (my : Int) < ((my + 1 : Nat) : Int) := by omega
        have i2 : (0 : Int) ≤ (my : Int) := by omega
        by_cases hm : kf + kl = b
        · have t1 : ((kf + kl : Int) == b) = true := by simpa using hm
          go_wp2_with fail
          go_quiet (fail)
          have c1q : (wr.drewN nq).cell? ⟨gr, my * 2 + 1, none⟩ = some (.int .i64 kl) := Ext.cellS ((Ext.refl wr).drewN nq) c1'
          have f1q : (wr.drewN nq).frozen? ⟨gr, my * 2 + 1, none⟩ = false := by rw [← f1']; rfl
          go_wp2_with fail
          go_roundw
          case rel =>
            refine ⟨i + 1, by omega, by go_num, ?_, fun e => absurd e HNE.out, (HX.out.drewN nq).setCell (by simp; omega) _⟩
            have h1 := OwnR.setLen (HOW.out.ext ((Ext.refl _).drewN nq)) my (by rw [HN.out]; omega) (kl + 1) HN.out.symm
            rw [HST.out, HP.out, if_pos hm]
            obtain rfl := HM.out
            have e : (ys ++ [(kf, kl)]).set ys.length (((ys ++ [(kf, kl)])[ys.length]'(by simp)).1, kl + 1) = ys ++ [(kf, kl + 1)] := by simp
            rw [e] at h1
            exact h1
          case measure => simp [intOf]; omega
        · have t1 : ((kf + kl : Int) == b) = false := by simpa using hm
          go_wp2_with fail
          go_quiet (fail)
          have HS := hid (src_run (wr.drewN nq) (wr.drewN nq).heap.size (b, 1) rfl)
          have HOA := hid (HOW.out.ext (((Ext.refl wr).drewN nq).alloc (.cells #[.int .i64 b, .int .i64 1] 43)))
          go_wp2_with (at_builtin; go_must (refine wl_appR rfl _ _ _ rfl w.heap.size (.slice (some ⟨gr, 0, none⟩) (my + 1) cr) (ys ++ [(kf, kl)]) rfl HOA.out _ [(b, 1)] rfl HS.out (by simp only [List.length_singleton]; rw [HN.out]; omega) (by simp; omega) ?_; intro v' w' k1 k4 k5 k6))
          go_roundw
          case rel => exact ⟨i + 1, by omega, by go_num, by rw [HST.out, HP.out, if_neg hm]; exact k1, fun e => absurd e HNE.out, Below.trans ((HX.out.drewN nq).alloc _) k5⟩
          case measure => simp [intOf]; omega
    · obtain rfl : i = L.length := by omega
      rw [List.take_length] at *
      go_wp2_with fail
      go_ret
      exact ⟨_, rfl, HOW.out, HNIL.out, HX.out⟩
end Go.Proofs.Ytbpcgfplokkfpaa
