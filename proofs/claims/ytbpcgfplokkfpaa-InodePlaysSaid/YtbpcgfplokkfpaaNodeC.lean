/- inode's Cut, walked. -/
import Derived.Test.YtbpcgfplokkfpaaNodeE
namespace Go.Proofs.Ytbpcgfplokkfpaa
open Go.RowKit
set_option linter.unusedVariables false
set_option linter.unusedSimpArgs false

def CutEnd (w : World) (g : Nat) (n : Int) (L : List Int) (e : Ending) (w' : World) : Prop :=
  ∃ gv q', e = .returned (.tuple #[gv, .int .i64 0]) ∧ NodeAt w' g q' n (L.take (nb n).toNat) ∧ OwnR w' w.heap.size gv (whole (L.drop (nb n).toNat)) ∧ Keep (fun k => k ≠ g) w w' ∧
    (∀ k, q' = some k → w.heap.size ≤ k) ∧ (∀ k, gv.ownBlock = some k → q' ≠ some k) ∧ NilIf (L.drop (nb n).toNat) gv

theorem grown_off {w w' : World} {base : Nat} {v : Value} {xs : List Run} {row : Option Nat} (h : OwnR w base v xs) (hg : w.grownBy w' row) (hr : ∀ k, v.ownBlock = some k → row ≠ some k) : OwnR w' base v xs :=
  h.keep (keep_grown hg) fun k hk e => hr k hk e.symm

set_option maxRecDepth 100000 in
set_option maxHeartbeats 1000000 in
theorem nodeCut_bad (w : World) (g : Nat) (q : Option Nat) (s n : Int) (L : List Int) (h : NodeAt w g q s L) (hs : 0 ≤ s ∧ s ≤ 32768) (hn : -9223372036854775808 ≤ n ∧ n ≤ 9223372036854775807) (hb : n < 0 ∨ s < n) :
    Calls Try.prog 43 #[.pointer (some ⟨g, 0, none⟩), .int .i64 n] w fun e w' => e = .returned (.tuple #[.slice none 0 0, .int .i64 60]) ∧ Below w.heap.size w w' := by
  obtain ⟨na, nc, c0, c1, -⟩ := h.cells
  have hb2 : n < 0 ∨ (0 ≤ n ∧ s < n) := by omega
  clear hb
  rcases hb2 with hb | ⟨hb, hb2⟩
  all_goals
    go_enter Try.func43, Try.ntmps43
    go_wp2_with fail
    go_ret2
    exact ⟨rfl, by show Ext _ _; (· repeat (first | (with_reducible assumption) | exact Ext.refl _ | refine Ext.alloc ?_ _ | refine Ext.drew ?_ | refine Ext.drewN ?_ _ | (apply Ext.snart; (with_reducible assumption))))⟩

set_option maxRecDepth 100000 in
set_option maxHeartbeats 4000000 in
theorem nodeCut_any (w : World) (g : Nat) (q : Option Nat) (s n : Int) (L : List Int) (h : NodeAt w g q s L) (ho : NodeOk s L) (h0 : 0 ≤ n) (h1 : n ≤ s) :
    Calls Try.prog 43 #[.pointer (some ⟨g, 0, none⟩), .int .i64 n] w (CutEnd w g n L) := by
  have H := hid h
  have hs2 := ho.hi
  have hl64 := ho.len64
  have hwl := whole_len L
  have HB := hid (whole_in ho.blk)
  obtain ⟨na, nc, c0, c1, hr, f0, f1, -, hnc⟩ := h.cells
  have HR := hid hr
  have HEW := hid (expand_whole L)
  have hgw := h.lt
  have hnb0 := nb_lo h0
  have hnb1 := nb_hi (show n ≤ 32768 by omega)
  obtain ⟨K, hK⟩ := Int.eq_ofNat_of_zero_le hnb0
  have hKt : (nb n).toNat = K := by omega
  have HKT := hid hKt
  have HK := hid hK
  have hK64 : K ≤ 64 := by omega
  clear h hr hnb0 hnb1 hKt hK ho
  generalize whole L = X at *
  go_enter Try.func43, Try.ntmps43
  go_wp2_with ((go_at_call 54; refine (blocks_any _ n h0 (by omega)).mono ?_; rw [HK.out]; rintro e w1 ⟨rfl, rfl⟩))
  go_loopw [6, 7, 8, 33] (fun u6 u7 u8 u33 wr => ∃ i ke : Nat, i ≤ X.length ∧ u33 = .int .i64 i ∧ u6 = .int .i64 ke ∧ ke ≤ 64 ∧ ke = K - (expand (X.take i)).length ∧ OwnR wr w.heap.size u7 (whole ((expand (X.take i)).take K)) ∧ OwnR wr w.heap.size u8 (whole ((expand (X.take i)).drop K)) ∧ (∀ k, u8.ownBlock = some k → u7.ownBlock ≠ some k) ∧ NilIf ((expand (X.take i)).take K) u7 ∧ NilIf ((expand (X.take i)).drop K) u8 ∧ Ext w wr) (fun _ _ _ i _ => X.length - (intOf i).toNat)
  case atStart => exact ⟨0, K, by omega, rfl, rfl, hK64, by simp [expand], by simpa [expand, whole_nil] using OwnR.nil _ _, by simpa [expand, whole_nil] using OwnR.nil _ _, by simp [Value.ownBlock], fun _ => rfl, fun _ => rfl, by (· repeat (first | (with_reducible assumption) | exact Ext.refl _ | refine Ext.alloc ?_ _ | refine Ext.drew ?_ | refine Ext.drewN ?_ _ | (apply Ext.snart; (with_reducible assumption))))⟩
  case round =>
    obtain ⟨i, ke, hi, rfl, rfl, hke64, hke, hown7, hown8, hap, hn7, hn8, hx⟩ := hrel
    have HKE := hid hke
    have HO7 := hid hown7
    have HO8 := hid hown8
    have HAP := hid hap
    have HN7 := hid hn7
    have HN8 := hid hn8
    have hin := HB.out
    clear hke hown7 hown8 hap hn7 hn8
    by_cases hlt : i < X.length
    · obtain ⟨gl, ol, cl, e, hgl, d0, d1⟩ := (HR.out.ext hx).at i hlt
      simp only [Value.slice.injEq] at e
      obtain ⟨rfl, -, rfl⟩ := e
      have hri := hin _ (List.getElem_mem hlt)
      have hex := expand_take_succ X i hlt
      generalize X[i] = r at d0 d1 hri hex
      obtain ⟨rf, rl⟩ := r
      dsimp only at d0 d1 hri
      obtain ⟨r1, r2, r3⟩ := hri
      obtain ⟨rl, rfl⟩ := Int.eq_ofNat_of_zero_le (show 0 ≤ rl by omega)
      have HEX := hid hex
      have hr2 : 1 ≤ rl := by omega
      obtain ⟨k, hk⟩ : ∃ k, k = min ke rl := ⟨_, rfl⟩
      have HC := hid (cut_step (expand (X.take i)) rf rl K ke k hr2 HKE.out hk)
      have HEL := hid (expand_one_len rf (rl : Int))
      clear hex hin
      have hlow := expand_in HB.out i
      have hpre := expand_prefix X i
      rw [HEW.out] at hpre
      have HL7 := hid (whole_low (A := (expand (X.take i)).take K) fun b hb => hlow b (List.mem_of_mem_take hb))
      have HL8 := hid (whole_low (A := (expand (X.take i)).drop K) fun b hb => hlow b (List.mem_of_mem_drop hb))
      have hw7 := whole_len ((expand (X.take i)).take K)
      have hw8 := whole_len ((expand (X.take i)).drop K)
      rw [List.length_take] at hw7
      rw [List.length_drop] at hw8
      have hm7 : (whole ((expand (X.take i)).take K)).length ≤ 1000000 := by omega
      have hm8 : (whole ((expand (X.take i)).drop K)).length ≤ 1000000 := by omega
      clear hlow hw7 hw8
      have hxs := hx.size
      have HN7n := hid (show ¬ (0 < k) → (expand (X.take (i + 1))).take K = (expand (X.take i)).take K from fun h => by
        rw [HEX.out, List.take_append, show K - (expand (X.take i)).length = 0 from by have := HKE.out; omega, List.take_zero, List.append_nil])
      have HN8n := hid (show ¬ (k < rl) → (expand (X.take (i + 1))).drop K = (expand (X.take i)).drop K from fun h => by
        rw [HEX.out, List.drop_append, List.drop_of_length_le (l := expand [(rf, (rl : Int))]) (by rw [HEL.out]; have := HKE.out; omega), List.append_nil])
      rw [← HEX.out] at HC
      have HN7p := hid (show 0 < k → (expand (X.take (i + 1))).take K ≠ [] from fun h e => by
        have := congrArg List.length e
        rw [List.length_take, HEX.out, List.length_append, HEL.out, List.length_nil] at this
        have := HKE.out
        omega)
      have HN8p := hid (show k < rl → (expand (X.take (i + 1))).drop K ≠ [] from fun h e => by
        have := congrArg List.length e
        rw [List.length_drop, HEX.out, List.length_append, HEL.out, List.length_nil] at this
        have := HKE.out
        omega)
      have HKK := hid hk
      have hrl : rl ≤ 512 := by omega
      have hrli : (rl : Int) ≤ 512 := by omega
      have hx2 := hx.alloc (.cells #[.int .i64 rf, .int .i64 (rl : Int)] 43)
      by_cases ca : ke = 0
      · have hk0 : k = 0 := by omega
        subst hk0 ca
        clear hk
        go_wp2_with ((go_at_call 66; go_must (refine (put_any _ w.heap.size _ _ (rf, (rl : Int)) (HO8.out.ext ((Ext.refl wr).alloc _)) (by simp; omega) hm8 HL8.out ⟨⟨by dsimp only; omega, by dsimp only; omega⟩, by dsimp only; omega, by dsimp only; omega⟩).mono ?_; rintro e w5 ⟨v5, rfl, k1, k4, k6⟩)))
        go_roundw
        case rel =>
          obtain ⟨e1, e2, e3⟩ := HC.out
          rw [if_neg (by omega)] at e1
          rw [if_pos (by omega)] at e2
          refine ⟨i + 1, 0, by omega, by go_num, rfl, by omega, e3.symm, by rw [e1]; exact grown_off (HO7.out.ext ((Ext.refl wr).alloc _)) k4 (fun k h1 h2 => HAP.out k h2 h1), by rw [e2]; simpa using k1, fun k h1 h2 => ?_, fun e => HN7.out (by rw [← HN7n.out (by omega)]; exact e), fun e => absurd e (HN8p.out (by omega)), hx2.grown k4 fun k hk => (HO8.out.lt k hk).1⟩
          rcases k6 k h1 with h3 | h3
          · exact HAP.out k h3 h2
          · have := (HO7.out.lt k h2).2
            simp at h3
            omega
        case measure => simp [intOf]; omega
      · by_cases cb : ke < rl
        · obtain rfl : k = ke := by omega
          clear hk
          have hkp : 0 < k := by omega
          go_wp2_with fail
          refine (put_any _ w.heap.size _ _ (rf, (k : Int)) (HO7.out.ext ((Ext.refl wr).alloc _)) (by simp; omega) hm7 HL7.out ⟨⟨by dsimp only; omega, by dsimp only; omega⟩, by dsimp only; omega, by dsimp only; omega⟩).mono ?_
          rintro e w5 ⟨v5, rfl, k1, k4, k6⟩
          have hs5 := k4.size
          have hs5' : wr.heap.size + 1 ≤ w5.heap.size := by simpa using hs5
          have hrow7 : ∀ k, u7.ownBlock = some k → w.heap.size ≤ k ∧ k < wr.heap.size := fun k hk => HO7.out.lt k hk
          have b0 : w5.cell? ⟨wr.heap.size, 0, none⟩ = some (.int .i64 rf) := k4.cell (by simp [go_sem]) (fun e => by have := hrow7 wr.heap.size e.symm; omega)
          have b1 : w5.cell? ⟨wr.heap.size, 1, none⟩ = some (.int .i64 (rl : Int)) := k4.cell (by simp [go_sem]) (fun e => by have := hrow7 wr.heap.size e.symm; omega)
          have HP8 := hid (grown_off (HO8.out.ext ((Ext.refl wr).alloc (.cells #[.int .i64 rf, .int .i64 (rl : Int)] 43))) k4 (fun k h1 h2 => HAP.out k h1 h2))
          have hx5 := hx2.grown k4 fun k hk => (hrow7 k hk).1
          have HK1 := hid k1
          have HK6 := hid k6
          clear k1 k4 k6 hs5 hrow7
          go_wp2_with ((go_at_call 66; go_must (refine (put_any _ w.heap.size _ _ (rf + (k : Int), (rl : Int) - (k : Int)) HP8.out (by have := hx5.size; omega) hm8 HL8.out ⟨⟨by dsimp only; omega, by dsimp only; omega⟩, by dsimp only; omega, by dsimp only; omega⟩).mono ?_; rintro e w6 ⟨v6, rfl, k1, k4, k6⟩)))
          go_roundw
          case rel =>
            obtain ⟨e1, e2, e3⟩ := HC.out
            rw [if_pos hkp] at e1
            rw [if_pos (by omega), show ((rl - k : Nat) : Int) = (rl : Int) - (k : Int) from by omega] at e2
            have hrow8 : ∀ k, u8.ownBlock = some k → w.heap.size ≤ k ∧ k < wr.heap.size := fun k hk => HO8.out.lt k hk
            have hap5 : ∀ k, v5.ownBlock = some k → u8.ownBlock ≠ some k := fun k h1 h2 => by
              rcases HK6.out k h1 with h3 | h3
              · exact HAP.out k h2 h3
              · have := hrow8 k h2
                simp at h3
                omega
            refine ⟨i + 1, 0, by omega, by go_num, by simp, by omega, by rw [e3]; omega, by rw [e1]; exact grown_off HK1.out k4 (fun k h1 h2 => hap5 k h1 h2), by rw [e2]; exact k1, fun k h1 h2 => ?_, fun e => absurd e (HN7p.out hkp), fun e => absurd e (HN8p.out (by omega)), hx5.grown k4 fun k hk => (hrow8 k hk).1⟩
            rcases k6 k h1 with h3 | h3
            · exact hap5 k h2 h3
            · have := (HK1.out.lt k h2).2
              omega
          case measure => simp [intOf]; omega
        · have hkp : 0 < rl := by omega
          obtain rfl : k = rl := by omega
          clear hk
          have cd : k < ke ∨ k = ke := by omega
          rcases cd with cd | rfl
          all_goals
            go_wp2_with fail
            refine (put_any _ w.heap.size _ _ (rf, (k : Int)) (HO7.out.ext ((Ext.refl wr).alloc _)) (by simp; omega) hm7 HL7.out ⟨⟨by dsimp only; omega, by dsimp only; omega⟩, by dsimp only; omega, by dsimp only; omega⟩).mono ?_
            rintro e w5 ⟨v5, rfl, k1, k4, k6⟩
            have hs5 := k4.size
            have hs5' : wr.heap.size + 1 ≤ w5.heap.size := by simpa using hs5
            have hrow7 : ∀ k, u7.ownBlock = some k → w.heap.size ≤ k ∧ k < wr.heap.size := fun k hk => HO7.out.lt k hk
            have b1 : w5.cell? ⟨wr.heap.size, 1, none⟩ = some (.int .i64 (k : Int)) := k4.cell (by simp [go_sem]) (fun e => by have := hrow7 wr.heap.size e.symm; omega)
            have HK6 := hid k6
            have HR7 := hid hrow7
            clear k6 hrow7
            go_wp2_with fail
            go_roundw
            case rel =>
              obtain ⟨e1, e2, e3⟩ := HC.out
              rw [if_pos hkp] at e1
              rw [if_neg (by omega)] at e2
              have hrow8 : ∀ k, u8.ownBlock = some k → w.heap.size ≤ k ∧ k < wr.heap.size := fun k hk => HO8.out.lt k hk
              refine ⟨i + 1, K - (expand (X.take (i + 1))).length, by omega, by go_num, by rw [e3]; exact congrArg (Value.int .i64) (by omega), by omega, rfl, by rw [e1]; exact k1, by rw [e2]; exact grown_off (HO8.out.ext ((Ext.refl wr).alloc _)) k4 (fun k h1 h2 => HAP.out k h1 h2), fun j h1 h2 => ?_, fun e => absurd e (HN7p.out hkp), fun e => HN8.out (by rw [← HN8n.out (by omega)]; exact e), hx2.grown k4 fun k hk => (HR7.out k hk).1⟩
              rcases HK6.out j h2 with h3 | h3
              · exact HAP.out j h1 h3
              · have := hrow8 j h1
                simp at h3
                omega
            case measure => simp [intOf]; omega
    · obtain rfl : i = X.length := by omega
      rw [List.take_length, HEW.out] at HO7 HO8 HN7 HN8
      have HKB := hid (H.out.ext hx)
      obtain ⟨vr, hb, -⟩ := HKB.out
      have HHB := hid hb
      obtain ⟨na', nc', d0, d1, -, e0, e1, -, -⟩ := HKB.out.cells
      clear hb
      obtain ⟨a7, c7, rfl, -⟩ := HO7.out.rd.slice
      generalize hv7 : Value.slice a7 (whole (List.take K L)).length c7 = v7 at *
      have HV7 := hid hv7
      rw [← hv7]
      clear hv7
      go_wp2_with fail
      go_ret2
      rw [HV7.out]
      have hlt7 := fun k hk => HO7.out.lt k hk
      have hxs := hx.size
      have hkeep : Keep (fun k => k ≠ g) wr ((wr.setCell ⟨g, 0, none⟩ (.int .i64 n)).setCell ⟨g, 1, none⟩ v7) := ((Keep.refl _ wr).setCell (by simp) _).setCell (by simp) _
      refine ⟨u8, v7.ownBlock, rfl, ⟨v7, by rw [set_row (set_row HHB.out _) _]; rfl, ?_, rfl, fun e => by have := hlt7 g e; omega, fun k hk => by have := hlt7 k hk; have := hkeep.size; omega, ?_⟩, ?_, (hx.keep _).trans hkeep, fun k hk => (hlt7 k hk).1, fun k h1 h2 => HAP.out k h1 h2, ?_⟩
      · rw [HKT.out]; exact HO7.out.rd.keep hkeep (fun _ k hk => by have := hlt7 k hk; omega)
      · rw [HKT.out]; exact HN7.out
      · rw [HKT.out]; exact HO8.out.keep hkeep (fun k hk => by have := HO8.out.lt k hk; omega)
      · rw [HKT.out]; exact HN8.out
end Go.Proofs.Ytbpcgfplokkfpaa
