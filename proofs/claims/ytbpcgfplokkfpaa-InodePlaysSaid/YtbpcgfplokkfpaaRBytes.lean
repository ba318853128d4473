/- The document's Bytes of a Node, walked. -/
import Derived.Test.YtbpcgfplokkfpaaRNode
import Derived.Test.YtbpcgfplokkfpaaNodeA
import Derived.Test.YtbpcgfplokkfpaaRefU
namespace Go.Proofs.Ytbpcgfplokkfpaa
open Go.RowKit
set_option linter.unusedVariables false
set_option linter.unusedSimpArgs false

set_option maxRecDepth 100000 in
set_option maxHeartbeats 2000000 in
theorem rBytes_any (w : World) (g : Nat) (q : Option Nat) (s : Int) (L : List Int) (h : RNodeAt w g q s L) (ho : NodeOk s L) :
    Calls Try.prog 73 #[.pointer (some ⟨g, 0, none⟩)] w (NewB (nodeB s L) w) := by
  have H := hid h
  have HO := hid ho
  have hs1 := ho.lo
  have hs2 := ho.hi
  have hl64 := ho.len64
  have hwl := whole_len L
  have HB := hid (whole_in ho.blk)
  have hgw := h.lt
  have HNB : Hid (nodeB s L = putU s.toNat ++ putU (whole L).length ++ (whole L).flatMap runB) := hid rfl
  obtain ⟨sn, rfl⟩ := Int.eq_ofNat_of_zero_le hs1
  rw [Int.toNat_natCast] at HNB
  have hpl := putU_len sn
  have hpl2 := putU_len (whole L).length
  clear h ho
  go_enter Try.func73, Try.ntmps73
  go_wp2_with fail
  refine (rRuns_any w g q _ L H.out HO.out).mono ?_
  rintro e w1 ⟨v1, rfl, hrv, -, hb1⟩
  have hx1 := Ext.of hb1
  obtain ⟨na, nc, c0, -, -, -, -, -, -⟩ := (H.out.ext hx1).cells
  have HRV := hid hrv
  obtain ⟨ra, rc, rfl, -⟩ := hrv.rd.slice
  clear hb1 hrv
  generalize whole L = X at *
  have hX64 : X.length ≤ 64 := by omega
  go_wp2_with fail
  refine (RPutUint_any w1 sn (by omega)).mono ?_
  rintro e w2 ⟨v2, rfl, ho2, hb2⟩
  have hx2 := Ext.of hb2
  go_wp2_with fail
  refine (RPutUint_any w2 X.length (by omega)).mono ?_
  rintro e w3 ⟨v3, rfl, ho3, hb3⟩
  have hx3 := Ext.of hb3
  have HO2 := hid (ho2.ext hx3)
  have HO3 := hid ho3
  have hs2' := hx2.size
  have hs3' := hx3.size
  have hs1' := hx1.size
  clear ho2 ho3 hb2 hb3
  go_wp2_with (at_builtin; go_must (refine wl_appB rfl _ _ _ rfl w1.heap.size v2 (putU sn) rfl (appB_own HO2.out) _ (putU X.length) rfl (src_B (rdB_own HO3.out)) ?_ ?_ ?_; (first | omega | (simp only [List.length_cons, List.length_nil, List.length_append, le32]; omega)); (first | omega | (simp only [World.alloc, Array.size_push]; omega)); intro v' w' k1 k2 k3 k4 k5 k6))
  have hown := k3 HO2.out
  have hx4 : Ext w1 w' := Below.trans (Below.trans hx2 (Below.mono hx3 hs2')) k5
  have HRX := hid (HRV.out.rd.ext hx4)
  have HX4 := hid hx4
  clear k1 k2 k3 k4 k5 k6
  go_loopw [4, 5] (fun u4 u5 wr => ∃ i : Nat, i ≤ X.length ∧ u5 = .int .i64 i ∧ OwnB wr w1.heap.size u4 (putU sn ++ putU X.length ++ (X.take i).flatMap runB) ∧ Ext w1 wr) (fun _ i _ => X.length - (intOf i).toNat)
  case atStart => exact ⟨0, by omega, rfl, by simpa using hown, HX4.out⟩
  case round =>
    clear hown
    obtain ⟨i, hi, rfl, hown, hx'⟩ := hrel
    have hbl := runsB_len (X.take i)
    rw [List.length_take, Nat.min_eq_left hi] at hbl
    have hrl : (putU sn ++ putU X.length ++ (X.take i).flatMap runB).length ≤ 2000 := by
      rw [List.length_append, List.length_append]; omega
    by_cases hlt : i < X.length
    · obtain ⟨gl, ol, cl, e, hgl, d0, d1⟩ := HRV.out.rd.at i hlt
      simp only [Value.slice.injEq] at e
      obtain ⟨rfl, -, rfl⟩ := e
      have hri := HB.out _ (List.getElem_mem hlt)
      have htk := List.take_succ_eq_append_getElem hlt
      have hbs : (X.take (i + 1)).flatMap runB = (X.take i).flatMap runB ++ (putU X[i].1.toNat ++ putU X[i].2.toNat) := by
        rw [htk, List.flatMap_append]
        simp [runB]
      generalize X[i] = r at d0 d1 hri hbs
      obtain ⟨rf, rl⟩ := r
      dsimp only at d0 d1 hri hbs
      obtain ⟨r1, r2, r3⟩ := hri
      obtain ⟨rf, rfl⟩ := Int.eq_ofNat_of_zero_le r1
      obtain ⟨rl, rfl⟩ := Int.eq_ofNat_of_zero_le (show 0 ≤ rl by omega)
      rw [Int.toNat_natCast, Int.toNat_natCast] at hbs
      have hpf := putU_len rf
      have hpl3 := putU_len rl
      have HBS := hid hbs
      clear htk hbs
      generalize (X.take i).flatMap runB = Y at *
      have HOW := hid hown
      have HX5 := hid hx'
      have hszr := hx'.size
      have d0r := hx'.cellS d0
      have HD1 := hid d1
      clear hown d0 d1
      go_wp2_with fail
      refine (RPutUint_any wr rf (by omega)).mono ?_
      rintro e w5 ⟨v5, rfl, ho5, hb5⟩
      have hx5 := Ext.of hb5
      have hsz5 := hx5.size
      have HO5 := hid (HOW.out.ext hx5)
      have HS5 := hid ho5
      clear ho5 hb5
      go_wp2_with ((at_builtin; go_must (refine wl_appB rfl _ _ _ rfl w1.heap.size u4 (putU sn ++ putU X.length ++ Y) rfl (appB_own HO5.out) _ (putU rf) rfl (src_B (rdB_own HS5.out)) ?_ ?_ ?_; (first | omega | (simp only [List.length_cons, List.length_nil, List.length_append, le32]; omega)); (first | omega | (simp only [World.alloc, Array.size_push]; omega)); intro v' w' k1 k2 k3 k4 k5 k6)); have HO6 := hid (k3 HO5.out); have HX6 := hid (show Ext w1 w' from Below.trans (Below.trans HX5.out (Below.mono hx5 hszr)) k5); have d1' := HX6.out.cellS HD1.out; have hsz6 := HX6.out.size; clear k1 k2 k3 k4 k5 k6)
      refine (RPutUint_any w' rl (by omega)).mono ?_
      rintro e w7 ⟨v7, rfl, ho7, hb7⟩
      have hx7 := Ext.of hb7
      have hsz7 := hx7.size
      have HO7 := hid (HO6.out.ext hx7)
      have HS7 := hid ho7
      clear ho7 hb7 d1'
      go_wp2_with (at_builtin; go_must (refine wl_appB rfl _ _ _ rfl w1.heap.size v' (putU sn ++ putU X.length ++ Y ++ putU rf) rfl (appB_own HO7.out) _ (putU rl) rfl (src_B (rdB_own HS7.out)) ?_ ?_ ?_; (first | omega | (simp only [List.length_cons, List.length_nil, List.length_append, le32]; omega)); (first | omega | (simp only [World.alloc, Array.size_push]; omega)); intro v' w' k1 k2 k3 k4 k5 k6))
      go_roundw
      case rel => exact ⟨i + 1, by omega, by go_num, by rw [HBS.out]; have := k3 HO7.out; simpa [List.append_assoc] using this, Below.trans (Below.trans HX6.out (Below.mono hx7 hsz6)) k5⟩
      case measure => simp [intOf]; omega
    · obtain rfl : i = X.length := by omega
      go_wp2_with fail
      go_ret
      exact ⟨_, rfl, by rw [HNB.out]; rw [List.take_length] at hown; exact hown.low (by omega), (by show Ext _ _; exact hx1.trans hx')⟩
end Go.Proofs.Ytbpcgfplokkfpaa
