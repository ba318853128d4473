/- StreamsKeys, walked. -/
import Derived.Test.YthobhkmphjnlaaaStrJ
import Derived.Test.YthobhkmphjnlaaaStrM
import Derived.Test.YthobhkmphjnlaaaRegT
namespace Go.Proofs.Ythobhkmphjnlaaa
open Go.RowKit
set_option linter.unusedVariables false
set_option linter.unusedSimpArgs false

set_option maxRecDepth 100000 in
set_option maxHeartbeats 4000000 in
theorem streamsKeys_walk (w : World) (s : ByteArray) (hss0 : s.size ≤ 140737488351232) (k : ByteArray) (hks0 : k.size ≤ 140737488351232) (lv : Value) (l : List Ev) (hl : RdS rE w (fun k => k < w.heap.size) lv l) (sv : Value) (cs : List Cl) (hs : RdS rCl w (fun k => k < w.heap.size) sv cs) (n : Int) (hn : -9223372036854775808 ≤ n ∧ n ≤ 9223372036854775807) (ov : Value) (o : List Ev) (ho : RdS rE w (fun k => k < w.heap.size) ov o) :
    Calls Try.prog 4 #[.string s, .string k, lv, sv, .int .i64 n, ov] w fun e w' => e = .returned (.bool true) ∧ Below w.heap.size w w' := by
  have hss : s.size ≤ 9223372036854775807 := by omega
  have hks : k.size ≤ 9223372036854775807 := by omega
  clear hss0 hks0
  obtain ⟨hn1, hn2⟩ := hn
  obtain ⟨sa, sc, rfl, hsc1, hsc2⟩ := hs.slice
  obtain ⟨la0, lc0, rfl, hlc1, hlc2⟩ := hl.slice
  obtain ⟨oa, oc, rfl, hoc1, hoc2⟩ := ho.slice
  have HS := hid hs
  have HL0 := hid hl
  have HO := hid ho
  clear hs hl ho
  go_enter Try.func4, Try.ntmps4
  go_wp2_with fail
  refine (awake10_any w).mono ?_
  rintro e w1 ⟨rfl, hx1⟩
  have HX1 := hid hx1
  clear hx1
  go_wp2_with fail
  refine (New_idx w1).mono ?_
  rintro e w2 ⟨g, rfl, hi2, hx2⟩
  have HI2 := hid hi2
  have HX2 := hid hx2
  clear hi2 hx2
  go_wp2_with fail
  refine (Try_idx w2 _ g ix0 HI2.out (by decide) s hss 0 (by decide) k hks _ _ l (HL0.out.ext (HX1.out.trans HX2.out)) (by omega) (by simp [ix0])).mono ?_
  rintro e w4 ⟨ev1, rfl, hev1, hx4⟩
  obtain ⟨z1, hz1⟩ : ∃ z1, tryF ix0 s 0 k l = z1 := ⟨_, rfl⟩
  rw [hz1] at hev1 ⊢
  have HZ1 := hid hz1
  clear hz1
  obtain ⟨⟨zf, zp, zc, zg⟩, ⟨bs, bk, bf, bes⟩, er⟩ := z1
  dsimp only at hev1 ⊢
  obtain ⟨ea, ec, rfl, hec1, hec2⟩ := hev1.slice
  have HEV1 := hid hev1.upto
  have HX4 := hid hx4
  clear hev1 hx4
  by_cases h1 : er = 0
  · subst h1
    by_cases hk0 : k.size = 0
    · have k1 := str_nil hk0
      have k2 : k.toList.isEmpty = true := by rw [k1]; rfl
      clear hk0
      go_wp2_with fail
      go_ret
      exact ⟨rfl, HX1.out.trans (HX2.out.trans (HX4.out.trans (by show Ext w4 _; (· repeat (first | (with_reducible assumption) | exact Ext.refl _ | refine Ext.alloc ?_ _ | refine Ext.drew ?_ | refine Ext.drewN ?_ _ | (apply Ext.snart; (with_reducible assumption)))))))⟩
    · have k1 := str_ne hk0
      have k2 := str_ne' hk0
      obtain ⟨r1, r2, r3, r4, r5, r6, r7⟩ := keys_first (s := s) (k := k) (l := l) (by rw [HZ1.out]) (fun e => hk0 (by rw [e]; rfl))
      rw [HZ1.out] at r1
      simp only [Prod.mk.injEq] at r1
      obtain ⟨⟨hq1, hq2, hq3, hq4⟩, ⟨hp1, hp2, hp3, hp4⟩, -⟩ := r1
      subst hq1 hq2 hq3 hq4 hp1 hp2 hp3 hp4
      have HNM := hid r2
      have R5 := hid r5
      have R6 := hid r6
      have R7 := hid r7
      have hl0 := addF_len ix0 (bs, bk, 0, bes)
      have HL9 := hid hl0
      clear hk0 r2 r5 r6 r7 hl0
      go_wp2_with fail
      obtain ⟨w5, hw5⟩ : ∃ w5, w5 = (w4.alloc (.cells #[.int .i64 0, .int .i64 0, .int .i64 (bes.length : Int), .bool false] 29)).alloc (.cells #[.string bs, .string bk, .int .i64 0, .slice ea bes.length ec] 31) := ⟨_, rfl⟩
      rw [← hw5]
      have hx45 : Ext w4 w5 := by rw [hw5]; exact ((Ext.refl _).alloc _).alloc _
      have hrA : w5.heap[w4.heap.size]? = some (.cells #[.int .i64 0, .int .i64 0, .int .i64 (bes.length : Int), .bool false] 29 (0, 0)) := by rw [hw5]; exact alloc_two_a _ _ _ _
      have hs5 : w5.heap.size = w4.heap.size + 2 := by rw [hw5]; simp
      clear hw5
      obtain ⟨gR, hgRe⟩ : ∃ gR, gR = w4.heap.size := ⟨_, rfl⟩
      rw [← hgRe] at hrA ⊢
      have hs24 := HX4.out.size
      have hgR1 : w2.heap.size ≤ gR := by omega
      have hgR5 : gR < w5.heap.size := by omega
      have HRA := hid hrA
      have HX45 := hid hx45
      have HGR := hid hgRe
      clear hrA hx45 hs5 hgRe
      refine (Add_idx w5 _ g ix0 (HI2.out.ext (HX4.out.trans HX45.out)) (by decide) bs hss bk hks 0 (by decide) (fun j => w2.heap.size ≤ j ∧ j < w4.heap.size) (fun j hj h => by have h1 := hj.1; have h2 := h.2; omega) _ bes (HEV1.out.ext HX45.out) (by omega) (by simp [ix0])).mono ?_
      rintro e w6 ⟨rfl, hi6, hk6⟩
      rw [R5.out]
      obtain ⟨X1, hX1⟩ : ∃ X1, (addF ix0 (bs, bk, 0, bes)).1 = X1 := ⟨_, rfl⟩
      rw [hX1] at hi6
      have HX1' := hid hX1
      clear hX1
      have hal1 : X1.all.length ≤ 16 := by
        have := HL9.out.2
        rw [HX1'.out] at this
        simpa [ix0] using this
      have HAL1 := hid hal1
      have HXW := hid (show Ext w w6 from Below.trans (HX1.out.trans (HX2.out.trans (HX4.out.trans HX45.out))) (hk6.below w.heap.size ((HX1.out.trans (HX2.out.trans (HX4.out.trans HX45.out))).size) (fun j hj h => by have h1 := h.1; have h2 := HX1.out.size; omega)))
      have HROW0 := hid ((hk6.block gR (fun h => by have := h.2; omega) hgR5).trans HRA.out)
      have hs56 := hk6.size
      have HI6 := hid (Idx.mono (T' := fun j => w.heap.size ≤ j ∧ j < w6.heap.size ∧ j ≠ gR) hi6 (fun j hj hl => by
        have a1 := HX1.out.size
        have a2 := HX2.out.size
        have a3 := HGR.out
        have a4 := HX45.out.size
        rcases hj with h | h
        · exact ⟨by have := h.1; omega, hl, by have := h.2; omega⟩
        · exact ⟨by have := h.1; omega, hl, by have := h.1; omega⟩))
      have hgR6 : gR < w6.heap.size := by omega
      clear hi6 hk6 hal1 k1 k2
      go_wp2_with fail
      go_loopw [18] (fun u18 wr => ∃ i : Nat, ∃ x : Ix, u18 = .int .i64 i ∧ i ≤ 40 ∧ i ≤ cs.length ∧ Idx (fun j => w.heap.size ≤ j ∧ j < wr.heap.size ∧ j ≠ gR) wr g x ∧ Reach x ∧ x.all.length ≤ 16 * i + 16 ∧ Ext w wr ∧ x.key bk = some (bs, 0, 0, (bes.length : Int), false) ∧ wr.heap[gR]? = some (.cells #[.int .i64 0, .int .i64 0, .int .i64 (bes.length : Int), .bool false] 29 (0, 0))) (fun u18 _ => 40 - (intOf u18).toNat)
      case atStart => exact ⟨0, X1, rfl, by omega, by omega, HI6.out, by rw [← HX1'.out]; exact R6.out, by have := HAL1.out; omega, HXW.out, by rw [← HX1'.out]; exact R7.out, HROW0.out⟩
      case round =>
        clear HI6 HXW HROW0 R5 R6 R7 HL9 HX1' HAL1
        obtain ⟨wo, rfl⟩ : ∃ wo : World, wo = wr := ⟨_, rfl⟩
        obtain ⟨i, x, rfl, hi40, hil, hidx, hre, hall, hx, hkey, hrow⟩ := hrel
        have HI := hid hidx
        have HRE := hid hre
        have HX := hid hx
        have HKEY := hid hkey
        have HROW := hid hrow
        have hgR := (Array.getElem?_eq_some_iff.1 hrow).1
        clear hidx hre hkey hrow
        by_cases hgo : i < cs.length ∧ i < 40
        · obtain ⟨hlt, hlt40⟩ := hgo
          obtain ⟨gl, ol, cap, lv, bev, e, hgl, -, d0, d1, d2, d3, d4, d5, -, -, -, -, -, hs1, hs2, -, -, hL, -⟩ := (HS.out.ext hx).atCl i hlt
          simp only [Value.slice.injEq] at e
          obtain ⟨rfl, -, rfl⟩ := e
          obtain ⟨la, lc, rfl, -, -⟩ := hL.slice
          generalize cs[i] = c at d0 d1 d2 d3 d4 d5 hs1 hs2 hL
          obtain ⟨ck, cst, cky, cn, cm, cl, cb⟩ := c
          dsimp only at d0 d1 d2 d3 d4 d5 hs1 hs2 hL
          have HL := hid hL
          have hlen : cl.length ≤ 9223372036854775807 := by obtain ⟨_, _, e, h1, h2⟩ := hL.slice; omega
          have hstr := HRE.out.str cst
          clear hL hx d0 d3 d4
          obtain ⟨z, hz⟩ : ∃ z, tryF x cst (-1) cky cl = z := ⟨_, rfl⟩
          have HZ := hid hz
          clear hz
          obtain ⟨⟨zf1, zp1, zc1, zg1⟩, ⟨cs1, ck1, cf1, ces⟩, er1⟩ := z
          go_upto_region 13 with fail
          go_cut [19, 20, 21] (fun s5 s6 s7 wx => TriedAt wo ((zf1, zp1, zc1, zg1), (cs1, ck1, cf1, ces), er1) s5 s6 s7 wx)
          case first =>
            go_wp2_with fail
            have hxd : Ext wo wo.drew := by (· repeat (first | (with_reducible assumption) | exact Ext.refl _ | refine Ext.alloc ?_ _ | refine Ext.drew ?_ | refine Ext.drewN ?_ _ | (apply Ext.snart; (with_reducible assumption))))
            refine wp_region_T (fun w' => w'.cell? ⟨gl, ol + i * 10 + 1, none⟩ = some (.string cst) ∧ w'.cell? ⟨gl, ol + i * 10 + 2, none⟩ = some (.string cky) ∧ w'.cell? ⟨gl, ol + i * 10 + 5, none⟩ = some (.slice la cl.length lc)) [16, 17, 18, 19, 20, 23, 24, 25] (by kernel_rfl) (keep3 hxd d1 d2 d5) (fun hS => ?_)
            (refine wpAnyT_take (i := 0) (v := ?_) rfl (by kernel_rfl) (by kernel_rfl) (by kernel_rfl) (by kernel_rfl) (fun _ _ _ h => h) (Or.inl ⟨by rfl, ?_⟩) (by assumption) ?_; rotate_left; ((intro wS hSw; (try dsimp only at hSw); (try simp only [List.getElem_toArray, List.getElem_cons_zero, List.getElem_cons_succ]); go_simp); (try with_reducible rfl)); (try simp only [Act.put, List.getElem_toArray, List.getElem_cons_zero, List.getElem_cons_succ, List.setIfInBounds_toArray, List.set_cons_zero, List.set_cons_succ]))
            (refine wpAnyT_take (i := 1) (v := ?_) rfl (by kernel_rfl) (by kernel_rfl) (by kernel_rfl) (by kernel_rfl) (fun _ _ _ h => h) (Or.inl ⟨by rfl, ?_⟩) (by assumption) ?_; rotate_left; ((intro wS hSw; (try dsimp only at hSw); (try simp only [List.getElem_toArray, List.getElem_cons_zero, List.getElem_cons_succ]); go_simp); (try with_reducible rfl)); (try simp only [Act.put, List.getElem_toArray, List.getElem_cons_zero, List.getElem_cons_succ, List.setIfInBounds_toArray, List.set_cons_zero, List.set_cons_succ]))
            (refine wpAnyT_take (i := 2) (v := ?_) rfl (by kernel_rfl) (by kernel_rfl) (by kernel_rfl) (by kernel_rfl) (fun _ _ _ h => h) (Or.inl ⟨by rfl, ?_⟩) (by assumption) ?_; rotate_left; ((intro wS hSw; (try dsimp only at hSw); (try simp only [List.getElem_toArray, List.getElem_cons_zero, List.getElem_cons_succ]); go_simp); (try with_reducible rfl)); (try simp only [Act.put, List.getElem_toArray, List.getElem_cons_zero, List.getElem_cons_succ, List.setIfInBounds_toArray, List.set_cons_zero, List.set_cons_succ]))
            (refine wpAnyT_take (i := 3) (v := ?_) rfl (by kernel_rfl) (by kernel_rfl) (by kernel_rfl) (by kernel_rfl) (fun _ _ _ h => h) (Or.inl ⟨by rfl, ?_⟩) (by assumption) ?_; rotate_left; ((intro wS hSw; (try dsimp only at hSw); (try simp only [List.getElem_toArray, List.getElem_cons_zero, List.getElem_cons_succ]); go_simp); (try with_reducible rfl)); (try simp only [Act.put, List.getElem_toArray, List.getElem_cons_zero, List.getElem_cons_succ, List.setIfInBounds_toArray, List.set_cons_zero, List.set_cons_succ]))
            (refine wpAnyT_take (i := 4) (v := ?_) rfl (by kernel_rfl) (by kernel_rfl) (by kernel_rfl) (by kernel_rfl) (fun _ _ _ h => h) (Or.inl ⟨by rfl, ?_⟩) (by assumption) ?_; rotate_left; ((intro wS hSw; (try dsimp only at hSw); (try simp only [List.getElem_toArray, List.getElem_cons_zero, List.getElem_cons_succ]); go_simp); (try with_reducible rfl)); (try simp only [Act.put, List.getElem_toArray, List.getElem_cons_zero, List.getElem_cons_succ, List.setIfInBounds_toArray, List.set_cons_zero, List.set_cons_succ]))
            (refine wpAnyT_take (i := 5) (v := ?_) rfl (by kernel_rfl) (by kernel_rfl) (by kernel_rfl) (by kernel_rfl) (fun _ _ _ h => h) (Or.inl ⟨by rfl, ?_⟩) (by assumption) ?_; rotate_left; ((intro wS hSw; (try dsimp only at hSw); (try simp only [List.getElem_toArray, List.getElem_cons_zero, List.getElem_cons_succ]); go_simp); (try with_reducible rfl)); (try simp only [Act.put, List.getElem_toArray, List.getElem_cons_zero, List.getElem_cons_succ, List.setIfInBounds_toArray, List.set_cons_zero, List.set_cons_succ]))
            (refine wpAnyT_take (i := 6) (v := ?_) rfl (by kernel_rfl) (by kernel_rfl) (by kernel_rfl) (by kernel_rfl) (fun _ _ _ h => h) (Or.inl ⟨by rfl, ?_⟩) (by assumption) ?_; rotate_left; ((intro wS hSw; (try dsimp only at hSw); (try simp only [List.getElem_toArray, List.getElem_cons_zero, List.getElem_cons_succ]); go_simp); (try with_reducible rfl)); (try simp only [Act.put, List.getElem_toArray, List.getElem_cons_zero, List.getElem_cons_succ, List.setIfInBounds_toArray, List.set_cons_zero, List.set_cons_succ]))
            (refine wpAnyT_take (i := 7) (v := ?_) rfl (by kernel_rfl) (by kernel_rfl) (by kernel_rfl) (by kernel_rfl) (fun _ _ _ h => h) (Or.inl ⟨by rfl, ?_⟩) (by assumption) ?_; rotate_left; ((intro wS hSw; (try dsimp only at hSw); (try simp only [List.getElem_toArray, List.getElem_cons_zero, List.getElem_cons_succ]); go_simp); (try with_reducible rfl)); (try simp only [Act.put, List.getElem_toArray, List.getElem_cons_zero, List.getElem_cons_succ, List.setIfInBounds_toArray, List.set_cons_zero, List.set_cons_succ]))
            (refine wpAnyT_take (i := 8) (v := ?_) rfl (by kernel_rfl) (by kernel_rfl) (by kernel_rfl) (by kernel_rfl) (fun _ _ _ h => h) (Or.inl ⟨by rfl, ?_⟩) (by assumption) ?_; rotate_left; ((intro wS hSw; (try dsimp only at hSw); (try simp only [List.getElem_toArray, List.getElem_cons_zero, List.getElem_cons_succ]); go_simp); (try with_reducible rfl)); (try simp only [Act.put, List.getElem_toArray, List.getElem_cons_zero, List.getElem_cons_succ, List.setIfInBounds_toArray, List.set_cons_zero, List.set_cons_succ]))
            (refine wpAnyT_take (i := 9) (v := ?_) rfl (by kernel_rfl) (by kernel_rfl) (by kernel_rfl) (by kernel_rfl) (fun _ _ _ h => h) (Or.inl ⟨by rfl, ?_⟩) (by assumption) ?_; rotate_left; ((intro wS hSw; (try dsimp only at hSw); (try simp only [List.getElem_toArray, List.getElem_cons_zero, List.getElem_cons_succ]); go_simp); (try with_reducible rfl)); (try simp only [Act.put, List.getElem_toArray, List.getElem_cons_zero, List.getElem_cons_succ, List.setIfInBounds_toArray, List.set_cons_zero, List.set_cons_succ]))
            (refine wpAnyT_take (i := 10) (v := ?_) rfl (by kernel_rfl) (by kernel_rfl) (by kernel_rfl) (by kernel_rfl) (fun _ _ _ h => h) (Or.inl ⟨by rfl, ?_⟩) (by assumption) ?_; rotate_left; ((intro wS hSw; (try dsimp only at hSw); (try simp only [List.getElem_toArray, List.getElem_cons_zero, List.getElem_cons_succ]); go_simp); (try with_reducible rfl)); (try simp only [Act.put, List.getElem_toArray, List.getElem_cons_zero, List.getElem_cons_succ, List.setIfInBounds_toArray, List.set_cons_zero, List.set_cons_succ]))
            (refine wpAnyT_take (i := 11) (v := ?_) rfl (by kernel_rfl) (by kernel_rfl) (by kernel_rfl) (by kernel_rfl) (fun _ _ _ h => h) (Or.inl ⟨by rfl, ?_⟩) (by assumption) ?_; rotate_left; ((intro wS hSw; (try dsimp only at hSw); (try simp only [List.getElem_toArray, List.getElem_cons_zero, List.getElem_cons_succ]); go_simp); (try with_reducible rfl)); (try simp only [Act.put, List.getElem_toArray, List.getElem_cons_zero, List.getElem_cons_succ, List.setIfInBounds_toArray, List.set_cons_zero, List.set_cons_succ]))
            (refine wpAnyT_take (i := 12) (v := ?_) rfl (by kernel_rfl) (by kernel_rfl) (by kernel_rfl) (by kernel_rfl) (fun _ _ _ h => h) (Or.inl ⟨by rfl, ?_⟩) (by assumption) ?_; rotate_left; ((intro wS hSw; (try dsimp only at hSw); (try simp only [List.getElem_toArray, List.getElem_cons_zero, List.getElem_cons_succ]); go_simp); (try with_reducible rfl)); (try simp only [Act.put, List.getElem_toArray, List.getElem_cons_zero, List.getElem_cons_succ, List.setIfInBounds_toArray, List.set_cons_zero, List.set_cons_succ]))
            (refine wpAnyT_take (i := 13) (v := ?_) rfl (by kernel_rfl) (by kernel_rfl) (by kernel_rfl) (by kernel_rfl) (fun _ _ _ h => h) (Or.inl ⟨by rfl, ?_⟩) (by assumption) ?_; rotate_left; ((intro wS hSw; (try dsimp only at hSw); (try simp only [List.getElem_toArray, List.getElem_cons_zero, List.getElem_cons_succ]); go_simp); (try with_reducible rfl)); (try simp only [Act.put, List.getElem_toArray, List.getElem_cons_zero, List.getElem_cons_succ, List.setIfInBounds_toArray, List.set_cons_zero, List.set_cons_succ]))
            (refine wpAnyT_take (i := 14) (v := ?_) rfl (by kernel_rfl) (by kernel_rfl) (by kernel_rfl) (by kernel_rfl) (fun _ _ _ h => h) (Or.inl ⟨by rfl, ?_⟩) (by assumption) ?_; rotate_left; ((intro wS hSw; (try dsimp only at hSw); (try simp only [List.getElem_toArray, List.getElem_cons_zero, List.getElem_cons_succ]); go_simp); (try with_reducible rfl)); (try simp only [Act.put, List.getElem_toArray, List.getElem_cons_zero, List.getElem_cons_succ, List.setIfInBounds_toArray, List.set_cons_zero, List.set_cons_succ]))
            (refine wpAnyT_take (i := 15) (v := ?_) rfl (by kernel_rfl) (by kernel_rfl) (by kernel_rfl) (by kernel_rfl) (fun _ _ _ h => h) (Or.inl ⟨by rfl, ?_⟩) (by assumption) ?_; rotate_left; ((intro wS hSw; (try dsimp only at hSw); (try simp only [List.getElem_toArray, List.getElem_cons_zero, List.getElem_cons_succ]); go_simp); (try with_reducible rfl)); (try simp only [Act.put, List.getElem_toArray, List.getElem_cons_zero, List.getElem_cons_succ, List.setIfInBounds_toArray, List.set_cons_zero, List.set_cons_succ]))
            refine wpAnyT_all (rs := [16, 21, 22]) (by kernel_rfl) (by decide) (AllT.consF rfl rfl (fun K hK => ?_) (AllT.consS rfl (fun K hK => ?_) (AllT.consS rfl (fun K hK => ?_) AllT.nil)))
            · go_simp
              go_at_call 17
              refine (Try_idx _ _ g x (HI.out.ext (by (· repeat (first | (with_reducible assumption) | exact Ext.refl _ | refine Ext.alloc ?_ _ | refine Ext.drew ?_ | refine Ext.drewN ?_ _ | (apply Ext.snart; (with_reducible assumption)))))) (by omega) _ hs1 (-1) (by decide) _ hs2 _ _ _ (HL.out.ext (by (· repeat (first | (with_reducible assumption) | exact Ext.refl _ | refine Ext.alloc ?_ _ | refine Ext.drew ?_ | refine Ext.drewN ?_ _ | (apply Ext.snart; (with_reducible assumption)))))) hlen (by omega)).mono ?_
              rintro e w' ⟨ev', rfl, hev', hx'⟩
              rw [HZ.out] at hev' ⊢
              dsimp only at hev' ⊢
              obtain ⟨ea', ec', rfl, -, -⟩ := hev'.slice
              have hx0' : Ext wo w' := (show Ext wo _ by (· repeat (first | (with_reducible assumption) | exact Ext.refl _ | refine Ext.alloc ?_ _ | refine Ext.drew ?_ | refine Ext.drewN ?_ _ | (apply Ext.snart; (with_reducible assumption))))).trans hx'
              have hsx' : wo.heap.size + 0 ≤ w'.heap.size := by have h : (wo).heap.size ≤ w'.heap.size := hx'.size; (try simp only [heap_alloc_sz] at h); omega
              have hev' := hev'.upto.mono (S' := fun k => wo.heap.size + 0 ≤ k ∧ k < w'.heap.size) (fun k hk _ => ⟨by have h : (wo).heap.size ≤ k := hk.1; (try simp only [heap_alloc_sz] at h); omega, hk.2⟩)
              (refine hK.out _ _ ?_; clear hK K)
              (refine wpAnyT_any (i := 17) (v := ?_) rfl (by kernel_rfl) (by kernel_rfl) (by kernel_rfl) (by kernel_rfl) (fun _ _ _ h => h) (Or.inl ⟨by rfl, ?_⟩) ?_; rotate_left; ((intro wS hSw; (try simp only [List.getElem_toArray, List.getElem_cons_zero, List.getElem_cons_succ]); go_simp); (try with_reducible rfl)); (try simp only [Act.put, List.getElem_toArray, List.getElem_cons_zero, List.getElem_cons_succ, List.setIfInBounds_toArray, List.set_cons_zero, List.set_cons_succ]))
              (refine wpAnyT_any (i := 18) (v := ?_) rfl (by kernel_rfl) (by kernel_rfl) (by kernel_rfl) (by kernel_rfl) (fun _ _ _ h => h) (Or.inl ⟨by rfl, ?_⟩) ?_; rotate_left; ((intro wS hSw; (try simp only [List.getElem_toArray, List.getElem_cons_zero, List.getElem_cons_succ]); go_simp); (try with_reducible rfl)); (try simp only [Act.put, List.getElem_toArray, List.getElem_cons_zero, List.getElem_cons_succ, List.setIfInBounds_toArray, List.set_cons_zero, List.set_cons_succ]))
              (refine wpAnyT_any (i := 19) (v := ?_) rfl (by kernel_rfl) (by kernel_rfl) (by kernel_rfl) (by kernel_rfl) (fun _ _ _ h => h) (Or.inl ⟨by rfl, ?_⟩) ?_; rotate_left; ((intro wS hSw; (try simp only [List.getElem_toArray, List.getElem_cons_zero, List.getElem_cons_succ]); go_simp); (try with_reducible rfl)); (try simp only [Act.put, List.getElem_toArray, List.getElem_cons_zero, List.getElem_cons_succ, List.setIfInBounds_toArray, List.set_cons_zero, List.set_cons_succ]))
              (refine wpAnyT_any (i := 20) (v := ?_) rfl (by kernel_rfl) (by kernel_rfl) (by kernel_rfl) (by kernel_rfl) (fun _ _ _ h => h) (Or.inl ⟨by rfl, ?_⟩) ?_; rotate_left; ((intro wS hSw; (try simp only [List.getElem_toArray, List.getElem_cons_zero, List.getElem_cons_succ]); go_simp); (try with_reducible rfl)); (try simp only [Act.put, List.getElem_toArray, List.getElem_cons_zero, List.getElem_cons_succ, List.setIfInBounds_toArray, List.set_cons_zero, List.set_cons_succ]))
              refine wpAnyT_all (rs := [21, 22]) (by kernel_rfl) (by decide) (AllT.consS rfl (fun K hK => ?_) (AllT.consS rfl (fun K hK => ?_) AllT.nil))
              · go_simp
                (refine hK.out _ _ (keep3 (show Ext wo _ by (· repeat (first | (with_reducible assumption) | exact Ext.refl _ | refine Ext.alloc ?_ _ | refine Ext.drew ?_ | refine Ext.drewN ?_ _ | (apply Ext.snart; (with_reducible assumption))))) d1 d2 d5) (fun hS => ?_); clear hK K)
                refine wpAnyT_all (rs := [22]) (by kernel_rfl) (by decide) (AllT.consS rfl (fun K hK => ?_) AllT.nil)
                go_simp
                (refine hK.out _ _ (keep3 (show Ext wo _ by (· repeat (first | (with_reducible assumption) | exact Ext.refl _ | refine Ext.alloc ?_ _ | refine Ext.drew ?_ | refine Ext.drewN ?_ _ | (apply Ext.snart; (with_reducible assumption))))) d1 d2 d5) (fun hS => ?_); clear hK K)
                have hA : ((w'.alloc (.cells #[.int .i64 0, .int .i64 0, .int .i64 0, .bool false] 29)).alloc (.cells #[.string ⟨#[]⟩, .string ⟨#[]⟩, .int .i64 0, .slice none 0 0] 31)).heap[w'.heap.size]? = some (.cells #[.int .i64 0, .int .i64 0, .int .i64 0, .bool false] 29 (0, 0)) := alloc_two_a _ _ _ _
                have hB : ((w'.alloc (.cells #[.int .i64 0, .int .i64 0, .int .i64 0, .bool false] 29)).alloc (.cells #[.string ⟨#[]⟩, .string ⟨#[]⟩, .int .i64 0, .slice none 0 0] 31)).heap[(w'.heap.size + 1)]? = some (.cells #[.string ⟨#[]⟩, .string ⟨#[]⟩, .int .i64 0, .slice none 0 0] 31 (0, 0)) := alloc_two_b _ _ _ _
                have hxW : Ext wo ((w'.alloc (.cells #[.int .i64 0, .int .i64 0, .int .i64 0, .bool false] 29)).alloc (.cells #[.string ⟨#[]⟩, .string ⟨#[]⟩, .int .i64 0, .slice none 0 0] 31)) := by (· repeat (first | (with_reducible assumption) | exact Ext.refl _ | refine Ext.alloc ?_ _ | refine Ext.drew ?_ | refine Ext.drewN ?_ _ | (apply Ext.snart; (with_reducible assumption))))
                have hevW : RdS rE ((w'.alloc (.cells #[.int .i64 0, .int .i64 0, .int .i64 0, .bool false] 29)).alloc (.cells #[.string ⟨#[]⟩, .string ⟨#[]⟩, .int .i64 0, .slice none 0 0] 31)) (fun k => wo.heap.size ≤ k ∧ k ≠ w'.heap.size ∧ k ≠ (w'.heap.size + 1)) (.slice ea' ces.length ec') ces := (hev'.ext (show Ext w' _ by (· repeat (first | (with_reducible assumption) | exact Ext.refl _ | refine Ext.alloc ?_ _ | refine Ext.drew ?_ | refine Ext.drewN ?_ _ | (apply Ext.snart; (with_reducible assumption)))))).mono (fun k hk _ => by have h1 := hk.1; have h2 := hk.2; refine ⟨?_, ?_, ?_⟩ <;> omega)
                have hAB : ¬ w'.heap.size = (w'.heap.size + 1) := by omega
                have hgA : wo.heap.size ≤ w'.heap.size := by omega
                have hgB : wo.heap.size ≤ (w'.heap.size + 1) := by omega
                obtain ⟨W0, hW0⟩ : ∃ W0, W0 = (w'.alloc (.cells #[.int .i64 0, .int .i64 0, .int .i64 0, .bool false] 29)).alloc (.cells #[.string ⟨#[]⟩, .string ⟨#[]⟩, .int .i64 0, .slice none 0 0] 31) := ⟨_, rfl⟩
                rw [← hW0] at hA hB hxW hevW ⊢
                clear hW0
                have HA := hid hA
                have HB := hid hB
                have HEVW := hid hevW
                have HXW := hid hxW
                have yA0 : W0.cell? ⟨w'.heap.size, 0, none⟩ = some (.int .i64 0) := (cell_of_row _ _ 0 _ _ _ HA.out).trans rfl
                have xA0 := frozen_blk HA.out 0
                have yA1 : W0.cell? ⟨w'.heap.size, 1, none⟩ = some (.int .i64 0) := (cell_of_row _ _ 1 _ _ _ HA.out).trans rfl
                have xA1 := frozen_blk HA.out 1
                have yA2 : W0.cell? ⟨w'.heap.size, 2, none⟩ = some (.int .i64 0) := (cell_of_row _ _ 2 _ _ _ HA.out).trans rfl
                have xA2 := frozen_blk HA.out 2
                have yA3 : W0.cell? ⟨w'.heap.size, 3, none⟩ = some (.bool false) := (cell_of_row _ _ 3 _ _ _ HA.out).trans rfl
                have xA3 := frozen_blk HA.out 3
                have yB0 : W0.cell? ⟨(w'.heap.size + 1), 0, none⟩ = some (.string ⟨#[]⟩) := (cell_of_row _ _ 0 _ _ _ HB.out).trans rfl
                have xB0 := frozen_blk HB.out 0
                have yB1 : W0.cell? ⟨(w'.heap.size + 1), 1, none⟩ = some (.string ⟨#[]⟩) := (cell_of_row _ _ 1 _ _ _ HB.out).trans rfl
                have xB1 := frozen_blk HB.out 1
                have yB2 : W0.cell? ⟨(w'.heap.size + 1), 2, none⟩ = some (.int .i64 0) := (cell_of_row _ _ 2 _ _ _ HB.out).trans rfl
                have xB2 := frozen_blk HB.out 2
                have yB3 : W0.cell? ⟨(w'.heap.size + 1), 3, none⟩ = some (.slice none 0 0) := (cell_of_row _ _ 3 _ _ _ HB.out).trans rfl
                have xB3 := frozen_blk HB.out 3
                have hBA : ¬ (w'.heap.size + 1) = w'.heap.size := by omega
                clear hA hB hxW hevW hev' hx' hsx' hx0' d1 d2 d5
                refine wpAnyT_all (rs := [23]) (by kernel_rfl) (by decide) (AllT.consF rfl rfl (fun K hK => ?_) AllT.nil)
                go_simp
                (refine hK.out _ _ ?_; clear hK K)
                refine wpAnyT_all (rs := [24]) (by kernel_rfl) (by decide) (AllT.consF rfl rfl (fun K hK => ?_) AllT.nil)
                go_simp
                (refine hK.out _ _ ?_; clear hK K)
                refine wpAnyT_all (rs := [25]) (by kernel_rfl) (by decide) (AllT.consF rfl rfl (fun K hK => ?_) AllT.nil)
                go_simp
                (refine hK.out _ _ ?_; clear hK K)
                refine wpAnyT_done (by kernel_rfl) (NoPanic.normal ?_) _
                go_wp2_with fail
                go_meet
                obtain ⟨qA, qB⟩ := eight_cells (u0 := .int .i64 zf1) (u1 := .int .i64 zp1) (u2 := .int .i64 zc1) (u3 := .bool zg1) (v0 := .string cs1) (v1 := .string ck1) (v2 := .int .i64 cf1) (v3 := .slice ea' ces.length ec') HA.out HB.out hAB
                exact ⟨_, _, _, rfl, rfl, rfl, hgB, hgA, ⟨(cell_of_row _ _ 0 _ _ _ qA).trans rfl, (cell_of_row _ _ 1 _ _ _ qA).trans rfl, (cell_of_row _ _ 2 _ _ _ qA).trans rfl, (cell_of_row _ _ 3 _ _ _ qA).trans rfl⟩, ⟨(cell_of_row _ _ 0 _ _ _ qB).trans rfl, (cell_of_row _ _ 1 _ _ _ qB).trans rfl, (cell_of_row _ _ 2 _ _ _ qB).trans rfl, (cell_of_row _ _ 3 _ _ _ qB).trans rfl⟩, (HEVW.out.kept (eight_keep (fun h => h.2.1 rfl) (fun h => h.2.2 rfl))).mono (fun k hk _ => hk.1), eight_ext HXW.out hgA hgB⟩
              · go_simp
                (refine hK.out _ _ (keep3 (show Ext wo _ by (· repeat (first | (with_reducible assumption) | exact Ext.refl _ | refine Ext.alloc ?_ _ | refine Ext.drew ?_ | refine Ext.drewN ?_ _ | (apply Ext.snart; (with_reducible assumption))))) d1 d2 d5) (fun hS => ?_); clear hK K)
                refine wpAnyT_all (rs := [21]) (by kernel_rfl) (by decide) (AllT.consS rfl (fun K hK => ?_) AllT.nil)
                go_simp
                (refine hK.out _ _ (keep3 (show Ext wo _ by (· repeat (first | (with_reducible assumption) | exact Ext.refl _ | refine Ext.alloc ?_ _ | refine Ext.drew ?_ | refine Ext.drewN ?_ _ | (apply Ext.snart; (with_reducible assumption))))) d1 d2 d5) (fun hS => ?_); clear hK K)
                have hA : ((w'.alloc (.cells #[.string ⟨#[]⟩, .string ⟨#[]⟩, .int .i64 0, .slice none 0 0] 31)).alloc (.cells #[.int .i64 0, .int .i64 0, .int .i64 0, .bool false] 29)).heap[(w'.heap.size + 1)]? = some (.cells #[.int .i64 0, .int .i64 0, .int .i64 0, .bool false] 29 (0, 0)) := alloc_two_b _ _ _ _
                have hB : ((w'.alloc (.cells #[.string ⟨#[]⟩, .string ⟨#[]⟩, .int .i64 0, .slice none 0 0] 31)).alloc (.cells #[.int .i64 0, .int .i64 0, .int .i64 0, .bool false] 29)).heap[w'.heap.size]? = some (.cells #[.string ⟨#[]⟩, .string ⟨#[]⟩, .int .i64 0, .slice none 0 0] 31 (0, 0)) := alloc_two_a _ _ _ _
                have hxW : Ext wo ((w'.alloc (.cells #[.string ⟨#[]⟩, .string ⟨#[]⟩, .int .i64 0, .slice none 0 0] 31)).alloc (.cells #[.int .i64 0, .int .i64 0, .int .i64 0, .bool false] 29)) := by (· repeat (first | (with_reducible assumption) | exact Ext.refl _ | refine Ext.alloc ?_ _ | refine Ext.drew ?_ | refine Ext.drewN ?_ _ | (apply Ext.snart; (with_reducible assumption))))
                have hevW : RdS rE ((w'.alloc (.cells #[.string ⟨#[]⟩, .string ⟨#[]⟩, .int .i64 0, .slice none 0 0] 31)).alloc (.cells #[.int .i64 0, .int .i64 0, .int .i64 0, .bool false] 29)) (fun k => wo.heap.size ≤ k ∧ k ≠ (w'.heap.size + 1) ∧ k ≠ w'.heap.size) (.slice ea' ces.length ec') ces := (hev'.ext (show Ext w' _ by (· repeat (first | (with_reducible assumption) | exact Ext.refl _ | refine Ext.alloc ?_ _ | refine Ext.drew ?_ | refine Ext.drewN ?_ _ | (apply Ext.snart; (with_reducible assumption)))))).mono (fun k hk _ => by have h1 := hk.1; have h2 := hk.2; refine ⟨?_, ?_, ?_⟩ <;> omega)
                have hAB : ¬ (w'.heap.size + 1) = w'.heap.size := by omega
                have hgA : wo.heap.size ≤ (w'.heap.size + 1) := by omega
                have hgB : wo.heap.size ≤ w'.heap.size := by omega
                obtain ⟨W0, hW0⟩ : ∃ W0, W0 = (w'.alloc (.cells #[.string ⟨#[]⟩, .string ⟨#[]⟩, .int .i64 0, .slice none 0 0] 31)).alloc (.cells #[.int .i64 0, .int .i64 0, .int .i64 0, .bool false] 29) := ⟨_, rfl⟩
                rw [← hW0] at hA hB hxW hevW ⊢
                clear hW0
                have HA := hid hA
                have HB := hid hB
                have HEVW := hid hevW
                have HXW := hid hxW
                have yA0 : W0.cell? ⟨(w'.heap.size + 1), 0, none⟩ = some (.int .i64 0) := (cell_of_row _ _ 0 _ _ _ HA.out).trans rfl
                have xA0 := frozen_blk HA.out 0
                have yA1 : W0.cell? ⟨(w'.heap.size + 1), 1, none⟩ = some (.int .i64 0) := (cell_of_row _ _ 1 _ _ _ HA.out).trans rfl
                have xA1 := frozen_blk HA.out 1
                have yA2 : W0.cell? ⟨(w'.heap.size + 1), 2, none⟩ = some (.int .i64 0) := (cell_of_row _ _ 2 _ _ _ HA.out).trans rfl
                have xA2 := frozen_blk HA.out 2
                have yA3 : W0.cell? ⟨(w'.heap.size + 1), 3, none⟩ = some (.bool false) := (cell_of_row _ _ 3 _ _ _ HA.out).trans rfl
                have xA3 := frozen_blk HA.out 3
                have yB0 : W0.cell? ⟨w'.heap.size, 0, none⟩ = some (.string ⟨#[]⟩) := (cell_of_row _ _ 0 _ _ _ HB.out).trans rfl
                have xB0 := frozen_blk HB.out 0
                have yB1 : W0.cell? ⟨w'.heap.size, 1, none⟩ = some (.string ⟨#[]⟩) := (cell_of_row _ _ 1 _ _ _ HB.out).trans rfl
                have xB1 := frozen_blk HB.out 1
                have yB2 : W0.cell? ⟨w'.heap.size, 2, none⟩ = some (.int .i64 0) := (cell_of_row _ _ 2 _ _ _ HB.out).trans rfl
                have xB2 := frozen_blk HB.out 2
                have yB3 : W0.cell? ⟨w'.heap.size, 3, none⟩ = some (.slice none 0 0) := (cell_of_row _ _ 3 _ _ _ HB.out).trans rfl
                have xB3 := frozen_blk HB.out 3
                have hBA : ¬ w'.heap.size = (w'.heap.size + 1) := by omega
                clear hA hB hxW hevW hev' hx' hsx' hx0' d1 d2 d5
                refine wpAnyT_all (rs := [23]) (by kernel_rfl) (by decide) (AllT.consF rfl rfl (fun K hK => ?_) AllT.nil)
                go_simp
                (refine hK.out _ _ ?_; clear hK K)
                refine wpAnyT_all (rs := [24]) (by kernel_rfl) (by decide) (AllT.consF rfl rfl (fun K hK => ?_) AllT.nil)
                go_simp
                (refine hK.out _ _ ?_; clear hK K)
                refine wpAnyT_all (rs := [25]) (by kernel_rfl) (by decide) (AllT.consF rfl rfl (fun K hK => ?_) AllT.nil)
                go_simp
                (refine hK.out _ _ ?_; clear hK K)
                refine wpAnyT_done (by kernel_rfl) (NoPanic.normal ?_) _
                go_wp2_with fail
                go_meet
                obtain ⟨qA, qB⟩ := eight_cells (u0 := .int .i64 zf1) (u1 := .int .i64 zp1) (u2 := .int .i64 zc1) (u3 := .bool zg1) (v0 := .string cs1) (v1 := .string ck1) (v2 := .int .i64 cf1) (v3 := .slice ea' ces.length ec') HA.out HB.out hAB
                exact ⟨_, _, _, rfl, rfl, rfl, hgB, hgA, ⟨(cell_of_row _ _ 0 _ _ _ qA).trans rfl, (cell_of_row _ _ 1 _ _ _ qA).trans rfl, (cell_of_row _ _ 2 _ _ _ qA).trans rfl, (cell_of_row _ _ 3 _ _ _ qA).trans rfl⟩, ⟨(cell_of_row _ _ 0 _ _ _ qB).trans rfl, (cell_of_row _ _ 1 _ _ _ qB).trans rfl, (cell_of_row _ _ 2 _ _ _ qB).trans rfl, (cell_of_row _ _ 3 _ _ _ qB).trans rfl⟩, (HEVW.out.kept (eight_keep (fun h => h.2.1 rfl) (fun h => h.2.2 rfl))).mono (fun k hk _ => hk.1), eight_ext HXW.out hgA hgB⟩
            · go_simp
              (refine hK.out _ _ (keep3 (show Ext wo _ by (· repeat (first | (with_reducible assumption) | exact Ext.refl _ | refine Ext.alloc ?_ _ | refine Ext.drew ?_ | refine Ext.drewN ?_ _ | (apply Ext.snart; (with_reducible assumption))))) d1 d2 d5) (fun hS => ?_); clear hK K)
              refine wpAnyT_all (rs := [16, 22]) (by kernel_rfl) (by decide) (AllT.consF rfl rfl (fun K hK => ?_) (AllT.consS rfl (fun K hK => ?_) AllT.nil))
              · go_simp
                go_at_call 17
                refine (Try_idx _ _ g x (HI.out.ext (by (· repeat (first | (with_reducible assumption) | exact Ext.refl _ | refine Ext.alloc ?_ _ | refine Ext.drew ?_ | refine Ext.drewN ?_ _ | (apply Ext.snart; (with_reducible assumption)))))) (by omega) _ hs1 (-1) (by decide) _ hs2 _ _ _ (HL.out.ext (by (· repeat (first | (with_reducible assumption) | exact Ext.refl _ | refine Ext.alloc ?_ _ | refine Ext.drew ?_ | refine Ext.drewN ?_ _ | (apply Ext.snart; (with_reducible assumption)))))) hlen (by omega)).mono ?_
                rintro e w' ⟨ev', rfl, hev', hx'⟩
                rw [HZ.out] at hev' ⊢
                dsimp only at hev' ⊢
                obtain ⟨ea', ec', rfl, -, -⟩ := hev'.slice
                have hx0' : Ext wo w' := (show Ext wo _ by (· repeat (first | (with_reducible assumption) | exact Ext.refl _ | refine Ext.alloc ?_ _ | refine Ext.drew ?_ | refine Ext.drewN ?_ _ | (apply Ext.snart; (with_reducible assumption))))).trans hx'
                have hsx' : wo.heap.size + 1 ≤ w'.heap.size := by have h : (wo.alloc (.cells #[.int .i64 0, .int .i64 0, .int .i64 0, .bool false] 29)).heap.size ≤ w'.heap.size := hx'.size; (try simp only [heap_alloc_sz] at h); omega
                have hev' := hev'.upto.mono (S' := fun k => wo.heap.size + 1 ≤ k ∧ k < w'.heap.size) (fun k hk _ => ⟨by have h : (wo.alloc (.cells #[.int .i64 0, .int .i64 0, .int .i64 0, .bool false] 29)).heap.size ≤ k := hk.1; (try simp only [heap_alloc_sz] at h); omega, hk.2⟩)
                (refine hK.out _ _ ?_; clear hK K)
                (refine wpAnyT_any (i := 17) (v := ?_) rfl (by kernel_rfl) (by kernel_rfl) (by kernel_rfl) (by kernel_rfl) (fun _ _ _ h => h) (Or.inl ⟨by rfl, ?_⟩) ?_; rotate_left; ((intro wS hSw; (try simp only [List.getElem_toArray, List.getElem_cons_zero, List.getElem_cons_succ]); go_simp); (try with_reducible rfl)); (try simp only [Act.put, List.getElem_toArray, List.getElem_cons_zero, List.getElem_cons_succ, List.setIfInBounds_toArray, List.set_cons_zero, List.set_cons_succ]))
                (refine wpAnyT_any (i := 18) (v := ?_) rfl (by kernel_rfl) (by kernel_rfl) (by kernel_rfl) (by kernel_rfl) (fun _ _ _ h => h) (Or.inl ⟨by rfl, ?_⟩) ?_; rotate_left; ((intro wS hSw; (try simp only [List.getElem_toArray, List.getElem_cons_zero, List.getElem_cons_succ]); go_simp); (try with_reducible rfl)); (try simp only [Act.put, List.getElem_toArray, List.getElem_cons_zero, List.getElem_cons_succ, List.setIfInBounds_toArray, List.set_cons_zero, List.set_cons_succ]))
                (refine wpAnyT_any (i := 19) (v := ?_) rfl (by kernel_rfl) (by kernel_rfl) (by kernel_rfl) (by kernel_rfl) (fun _ _ _ h => h) (Or.inl ⟨by rfl, ?_⟩) ?_; rotate_left; ((intro wS hSw; (try simp only [List.getElem_toArray, List.getElem_cons_zero, List.getElem_cons_succ]); go_simp); (try with_reducible rfl)); (try simp only [Act.put, List.getElem_toArray, List.getElem_cons_zero, List.getElem_cons_succ, List.setIfInBounds_toArray, List.set_cons_zero, List.set_cons_succ]))
                (refine wpAnyT_any (i := 20) (v := ?_) rfl (by kernel_rfl) (by kernel_rfl) (by kernel_rfl) (by kernel_rfl) (fun _ _ _ h => h) (Or.inl ⟨by rfl, ?_⟩) ?_; rotate_left; ((intro wS hSw; (try simp only [List.getElem_toArray, List.getElem_cons_zero, List.getElem_cons_succ]); go_simp); (try with_reducible rfl)); (try simp only [Act.put, List.getElem_toArray, List.getElem_cons_zero, List.getElem_cons_succ, List.setIfInBounds_toArray, List.set_cons_zero, List.set_cons_succ]))
                refine wpAnyT_all (rs := [22]) (by kernel_rfl) (by decide) (AllT.consS rfl (fun K hK => ?_) AllT.nil)
                go_simp
                (refine hK.out _ _ (keep3 (show Ext wo _ by (· repeat (first | (with_reducible assumption) | exact Ext.refl _ | refine Ext.alloc ?_ _ | refine Ext.drew ?_ | refine Ext.drewN ?_ _ | (apply Ext.snart; (with_reducible assumption))))) d1 d2 d5) (fun hS => ?_); clear hK K)
                have hA : (w'.alloc (.cells #[.string ⟨#[]⟩, .string ⟨#[]⟩, .int .i64 0, .slice none 0 0] 31)).heap[wo.heap.size]? = some (.cells #[.int .i64 0, .int .i64 0, .int .i64 0, .bool false] 29 (0, 0)) := (Below.block ((Ext.refl w').alloc _) _ (by omega)).trans ((Below.block hx' _ (by simp)).trans (heap_alloc_new wo _))
                have hB : (w'.alloc (.cells #[.string ⟨#[]⟩, .string ⟨#[]⟩, .int .i64 0, .slice none 0 0] 31)).heap[w'.heap.size]? = some (.cells #[.string ⟨#[]⟩, .string ⟨#[]⟩, .int .i64 0, .slice none 0 0] 31 (0, 0)) := heap_alloc_new _ _
                have hxW : Ext wo (w'.alloc (.cells #[.string ⟨#[]⟩, .string ⟨#[]⟩, .int .i64 0, .slice none 0 0] 31)) := by (· repeat (first | (with_reducible assumption) | exact Ext.refl _ | refine Ext.alloc ?_ _ | refine Ext.drew ?_ | refine Ext.drewN ?_ _ | (apply Ext.snart; (with_reducible assumption))))
                have hevW : RdS rE (w'.alloc (.cells #[.string ⟨#[]⟩, .string ⟨#[]⟩, .int .i64 0, .slice none 0 0] 31)) (fun k => wo.heap.size ≤ k ∧ k ≠ wo.heap.size ∧ k ≠ w'.heap.size) (.slice ea' ces.length ec') ces := (hev'.ext (show Ext w' _ by (· repeat (first | (with_reducible assumption) | exact Ext.refl _ | refine Ext.alloc ?_ _ | refine Ext.drew ?_ | refine Ext.drewN ?_ _ | (apply Ext.snart; (with_reducible assumption)))))).mono (fun k hk _ => by have h1 := hk.1; have h2 := hk.2; refine ⟨?_, ?_, ?_⟩ <;> omega)
                have hAB : ¬ wo.heap.size = w'.heap.size := by omega
                have hgA : wo.heap.size ≤ wo.heap.size := by omega
                have hgB : wo.heap.size ≤ w'.heap.size := by omega
                obtain ⟨W0, hW0⟩ : ∃ W0, W0 = w'.alloc (.cells #[.string ⟨#[]⟩, .string ⟨#[]⟩, .int .i64 0, .slice none 0 0] 31) := ⟨_, rfl⟩
                rw [← hW0] at hA hB hxW hevW ⊢
                clear hW0
                have HA := hid hA
                have HB := hid hB
                have HEVW := hid hevW
                have HXW := hid hxW
                have yA0 : W0.cell? ⟨wo.heap.size, 0, none⟩ = some (.int .i64 0) := (cell_of_row _ _ 0 _ _ _ HA.out).trans rfl
                have xA0 := frozen_blk HA.out 0
                have yA1 : W0.cell? ⟨wo.heap.size, 1, none⟩ = some (.int .i64 0) := (cell_of_row _ _ 1 _ _ _ HA.out).trans rfl
                have xA1 := frozen_blk HA.out 1
                have yA2 : W0.cell? ⟨wo.heap.size, 2, none⟩ = some (.int .i64 0) := (cell_of_row _ _ 2 _ _ _ HA.out).trans rfl
                have xA2 := frozen_blk HA.out 2
                have yA3 : W0.cell? ⟨wo.heap.size, 3, none⟩ = some (.bool false) := (cell_of_row _ _ 3 _ _ _ HA.out).trans rfl
                have xA3 := frozen_blk HA.out 3
                have yB0 : W0.cell? ⟨w'.heap.size, 0, none⟩ = some (.string ⟨#[]⟩) := (cell_of_row _ _ 0 _ _ _ HB.out).trans rfl
                have xB0 := frozen_blk HB.out 0
                have yB1 : W0.cell? ⟨w'.heap.size, 1, none⟩ = some (.string ⟨#[]⟩) := (cell_of_row _ _ 1 _ _ _ HB.out).trans rfl
                have xB1 := frozen_blk HB.out 1
                have yB2 : W0.cell? ⟨w'.heap.size, 2, none⟩ = some (.int .i64 0) := (cell_of_row _ _ 2 _ _ _ HB.out).trans rfl
                have xB2 := frozen_blk HB.out 2
                have yB3 : W0.cell? ⟨w'.heap.size, 3, none⟩ = some (.slice none 0 0) := (cell_of_row _ _ 3 _ _ _ HB.out).trans rfl
                have xB3 := frozen_blk HB.out 3
                have hBA : ¬ w'.heap.size = wo.heap.size := by omega
                clear hA hB hxW hevW hev' hx' hsx' hx0' d1 d2 d5
                refine wpAnyT_all (rs := [23]) (by kernel_rfl) (by decide) (AllT.consF rfl rfl (fun K hK => ?_) AllT.nil)
                go_simp
                (refine hK.out _ _ ?_; clear hK K)
                refine wpAnyT_all (rs := [24]) (by kernel_rfl) (by decide) (AllT.consF rfl rfl (fun K hK => ?_) AllT.nil)
                go_simp
                (refine hK.out _ _ ?_; clear hK K)
                refine wpAnyT_all (rs := [25]) (by kernel_rfl) (by decide) (AllT.consF rfl rfl (fun K hK => ?_) AllT.nil)
                go_simp
                (refine hK.out _ _ ?_; clear hK K)
                refine wpAnyT_done (by kernel_rfl) (NoPanic.normal ?_) _
                go_wp2_with fail
                go_meet
                obtain ⟨qA, qB⟩ := eight_cells (u0 := .int .i64 zf1) (u1 := .int .i64 zp1) (u2 := .int .i64 zc1) (u3 := .bool zg1) (v0 := .string cs1) (v1 := .string ck1) (v2 := .int .i64 cf1) (v3 := .slice ea' ces.length ec') HA.out HB.out hAB
                exact ⟨_, _, _, rfl, rfl, rfl, hgB, hgA, ⟨(cell_of_row _ _ 0 _ _ _ qA).trans rfl, (cell_of_row _ _ 1 _ _ _ qA).trans rfl, (cell_of_row _ _ 2 _ _ _ qA).trans rfl, (cell_of_row _ _ 3 _ _ _ qA).trans rfl⟩, ⟨(cell_of_row _ _ 0 _ _ _ qB).trans rfl, (cell_of_row _ _ 1 _ _ _ qB).trans rfl, (cell_of_row _ _ 2 _ _ _ qB).trans rfl, (cell_of_row _ _ 3 _ _ _ qB).trans rfl⟩, (HEVW.out.kept (eight_keep (fun h => h.2.1 rfl) (fun h => h.2.2 rfl))).mono (fun k hk _ => hk.1), eight_ext HXW.out hgA hgB⟩
              · go_simp
                (refine hK.out _ _ (keep3 (show Ext wo _ by (· repeat (first | (with_reducible assumption) | exact Ext.refl _ | refine Ext.alloc ?_ _ | refine Ext.drew ?_ | refine Ext.drewN ?_ _ | (apply Ext.snart; (with_reducible assumption))))) d1 d2 d5) (fun hS => ?_); clear hK K)
                refine wpAnyT_all (rs := [16]) (by kernel_rfl) (by decide) (AllT.consF rfl rfl (fun K hK => ?_) AllT.nil)
                go_simp
                go_at_call 17
                refine (Try_idx _ _ g x (HI.out.ext (by (· repeat (first | (with_reducible assumption) | exact Ext.refl _ | refine Ext.alloc ?_ _ | refine Ext.drew ?_ | refine Ext.drewN ?_ _ | (apply Ext.snart; (with_reducible assumption)))))) (by omega) _ hs1 (-1) (by decide) _ hs2 _ _ _ (HL.out.ext (by (· repeat (first | (with_reducible assumption) | exact Ext.refl _ | refine Ext.alloc ?_ _ | refine Ext.drew ?_ | refine Ext.drewN ?_ _ | (apply Ext.snart; (with_reducible assumption)))))) hlen (by omega)).mono ?_
                rintro e w' ⟨ev', rfl, hev', hx'⟩
                rw [HZ.out] at hev' ⊢
                dsimp only at hev' ⊢
                obtain ⟨ea', ec', rfl, -, -⟩ := hev'.slice
                have hx0' : Ext wo w' := (show Ext wo _ by (· repeat (first | (with_reducible assumption) | exact Ext.refl _ | refine Ext.alloc ?_ _ | refine Ext.drew ?_ | refine Ext.drewN ?_ _ | (apply Ext.snart; (with_reducible assumption))))).trans hx'
                have hsx' : wo.heap.size + 2 ≤ w'.heap.size := by have h : ((wo.alloc (.cells #[.int .i64 0, .int .i64 0, .int .i64 0, .bool false] 29)).alloc (.cells #[.string ⟨#[]⟩, .string ⟨#[]⟩, .int .i64 0, .slice none 0 0] 31)).heap.size ≤ w'.heap.size := hx'.size; (try simp only [heap_alloc_sz] at h); omega
                have hev' := hev'.upto.mono (S' := fun k => wo.heap.size + 2 ≤ k ∧ k < w'.heap.size) (fun k hk _ => ⟨by have h : ((wo.alloc (.cells #[.int .i64 0, .int .i64 0, .int .i64 0, .bool false] 29)).alloc (.cells #[.string ⟨#[]⟩, .string ⟨#[]⟩, .int .i64 0, .slice none 0 0] 31)).heap.size ≤ k := hk.1; (try simp only [heap_alloc_sz] at h); omega, hk.2⟩)
                (refine hK.out _ _ ?_; clear hK K)
                (refine wpAnyT_any (i := 17) (v := ?_) rfl (by kernel_rfl) (by kernel_rfl) (by kernel_rfl) (by kernel_rfl) (fun _ _ _ h => h) (Or.inl ⟨by rfl, ?_⟩) ?_; rotate_left; ((intro wS hSw; (try simp only [List.getElem_toArray, List.getElem_cons_zero, List.getElem_cons_succ]); go_simp); (try with_reducible rfl)); (try simp only [Act.put, List.getElem_toArray, List.getElem_cons_zero, List.getElem_cons_succ, List.setIfInBounds_toArray, List.set_cons_zero, List.set_cons_succ]))
                (refine wpAnyT_any (i := 18) (v := ?_) rfl (by kernel_rfl) (by kernel_rfl) (by kernel_rfl) (by kernel_rfl) (fun _ _ _ h => h) (Or.inl ⟨by rfl, ?_⟩) ?_; rotate_left; ((intro wS hSw; (try simp only [List.getElem_toArray, List.getElem_cons_zero, List.getElem_cons_succ]); go_simp); (try with_reducible rfl)); (try simp only [Act.put, List.getElem_toArray, List.getElem_cons_zero, List.getElem_cons_succ, List.setIfInBounds_toArray, List.set_cons_zero, List.set_cons_succ]))
                (refine wpAnyT_any (i := 19) (v := ?_) rfl (by kernel_rfl) (by kernel_rfl) (by kernel_rfl) (by kernel_rfl) (fun _ _ _ h => h) (Or.inl ⟨by rfl, ?_⟩) ?_; rotate_left; ((intro wS hSw; (try simp only [List.getElem_toArray, List.getElem_cons_zero, List.getElem_cons_succ]); go_simp); (try with_reducible rfl)); (try simp only [Act.put, List.getElem_toArray, List.getElem_cons_zero, List.getElem_cons_succ, List.setIfInBounds_toArray, List.set_cons_zero, List.set_cons_succ]))
                (refine wpAnyT_any (i := 20) (v := ?_) rfl (by kernel_rfl) (by kernel_rfl) (by kernel_rfl) (by kernel_rfl) (fun _ _ _ h => h) (Or.inl ⟨by rfl, ?_⟩) ?_; rotate_left; ((intro wS hSw; (try simp only [List.getElem_toArray, List.getElem_cons_zero, List.getElem_cons_succ]); go_simp); (try with_reducible rfl)); (try simp only [Act.put, List.getElem_toArray, List.getElem_cons_zero, List.getElem_cons_succ, List.setIfInBounds_toArray, List.set_cons_zero, List.set_cons_succ]))
                have hA : (w').heap[wo.heap.size]? = some (.cells #[.int .i64 0, .int .i64 0, .int .i64 0, .bool false] 29 (0, 0)) := (Below.block hx' _ (by simp; omega)).trans (alloc_two_a wo _ _ _)
                have hB : (w').heap[(wo.heap.size + 1)]? = some (.cells #[.string ⟨#[]⟩, .string ⟨#[]⟩, .int .i64 0, .slice none 0 0] 31 (0, 0)) := (Below.block hx' _ (by simp)).trans (alloc_two_b wo _ _ _)
                have hxW : Ext wo (w') := hx0'
                have hevW : RdS rE (w') (fun k => wo.heap.size ≤ k ∧ k ≠ wo.heap.size ∧ k ≠ (wo.heap.size + 1)) (.slice ea' ces.length ec') ces := (hev'.ext (show Ext w' _ by (· repeat (first | (with_reducible assumption) | exact Ext.refl _ | refine Ext.alloc ?_ _ | refine Ext.drew ?_ | refine Ext.drewN ?_ _ | (apply Ext.snart; (with_reducible assumption)))))).mono (fun k hk _ => by have h1 := hk.1; have h2 := hk.2; refine ⟨?_, ?_, ?_⟩ <;> omega)
                have hAB : ¬ wo.heap.size = (wo.heap.size + 1) := by omega
                have hgA : wo.heap.size ≤ wo.heap.size := by omega
                have hgB : wo.heap.size ≤ (wo.heap.size + 1) := by omega
                obtain ⟨W0, rfl⟩ : ∃ W0 : World, W0 = w' := ⟨_, rfl⟩
                have HA := hid hA
                have HB := hid hB
                have HEVW := hid hevW
                have HXW := hid hxW
                have yA0 : W0.cell? ⟨wo.heap.size, 0, none⟩ = some (.int .i64 0) := (cell_of_row _ _ 0 _ _ _ HA.out).trans rfl
                have xA0 := frozen_blk HA.out 0
                have yA1 : W0.cell? ⟨wo.heap.size, 1, none⟩ = some (.int .i64 0) := (cell_of_row _ _ 1 _ _ _ HA.out).trans rfl
                have xA1 := frozen_blk HA.out 1
                have yA2 : W0.cell? ⟨wo.heap.size, 2, none⟩ = some (.int .i64 0) := (cell_of_row _ _ 2 _ _ _ HA.out).trans rfl
                have xA2 := frozen_blk HA.out 2
                have yA3 : W0.cell? ⟨wo.heap.size, 3, none⟩ = some (.bool false) := (cell_of_row _ _ 3 _ _ _ HA.out).trans rfl
                have xA3 := frozen_blk HA.out 3
                have yB0 : W0.cell? ⟨(wo.heap.size + 1), 0, none⟩ = some (.string ⟨#[]⟩) := (cell_of_row _ _ 0 _ _ _ HB.out).trans rfl
                have xB0 := frozen_blk HB.out 0
                have yB1 : W0.cell? ⟨(wo.heap.size + 1), 1, none⟩ = some (.string ⟨#[]⟩) := (cell_of_row _ _ 1 _ _ _ HB.out).trans rfl
                have xB1 := frozen_blk HB.out 1
                have yB2 : W0.cell? ⟨(wo.heap.size + 1), 2, none⟩ = some (.int .i64 0) := (cell_of_row _ _ 2 _ _ _ HB.out).trans rfl
                have xB2 := frozen_blk HB.out 2
                have yB3 : W0.cell? ⟨(wo.heap.size + 1), 3, none⟩ = some (.slice none 0 0) := (cell_of_row _ _ 3 _ _ _ HB.out).trans rfl
                have xB3 := frozen_blk HB.out 3
                have hBA : ¬ (wo.heap.size + 1) = wo.heap.size := by omega
                clear hA hB hxW hevW hev' hx' hsx' hx0' d1 d2 d5
                refine wpAnyT_all (rs := [23]) (by kernel_rfl) (by decide) (AllT.consF rfl rfl (fun K hK => ?_) AllT.nil)
                go_simp
                (refine hK.out _ _ ?_; clear hK K)
                refine wpAnyT_all (rs := [24]) (by kernel_rfl) (by decide) (AllT.consF rfl rfl (fun K hK => ?_) AllT.nil)
                go_simp
                (refine hK.out _ _ ?_; clear hK K)
                refine wpAnyT_all (rs := [25]) (by kernel_rfl) (by decide) (AllT.consF rfl rfl (fun K hK => ?_) AllT.nil)
                go_simp
                (refine hK.out _ _ ?_; clear hK K)
                refine wpAnyT_done (by kernel_rfl) (NoPanic.normal ?_) _
                go_wp2_with fail
                go_meet
                obtain ⟨qA, qB⟩ := eight_cells (u0 := .int .i64 zf1) (u1 := .int .i64 zp1) (u2 := .int .i64 zc1) (u3 := .bool zg1) (v0 := .string cs1) (v1 := .string ck1) (v2 := .int .i64 cf1) (v3 := .slice ea' ces.length ec') HA.out HB.out hAB
                exact ⟨_, _, _, rfl, rfl, rfl, hgB, hgA, ⟨(cell_of_row _ _ 0 _ _ _ qA).trans rfl, (cell_of_row _ _ 1 _ _ _ qA).trans rfl, (cell_of_row _ _ 2 _ _ _ qA).trans rfl, (cell_of_row _ _ 3 _ _ _ qA).trans rfl⟩, ⟨(cell_of_row _ _ 0 _ _ _ qB).trans rfl, (cell_of_row _ _ 1 _ _ _ qB).trans rfl, (cell_of_row _ _ 2 _ _ _ qB).trans rfl, (cell_of_row _ _ 3 _ _ _ qB).trans rfl⟩, (HEVW.out.kept (eight_keep (fun h => h.2.1 rfl) (fun h => h.2.2 rfl))).mono (fun k hk _ => hk.1), eight_ext HXW.out hgA hgB⟩
            · go_simp
              (refine hK.out _ _ (keep3 (show Ext wo _ by (· repeat (first | (with_reducible assumption) | exact Ext.refl _ | refine Ext.alloc ?_ _ | refine Ext.drew ?_ | refine Ext.drewN ?_ _ | (apply Ext.snart; (with_reducible assumption))))) d1 d2 d5) (fun hS => ?_); clear hK K)
              refine wpAnyT_all (rs := [16, 21]) (by kernel_rfl) (by decide) (AllT.consF rfl rfl (fun K hK => ?_) (AllT.consS rfl (fun K hK => ?_) AllT.nil))
              · go_simp
                go_at_call 17
                refine (Try_idx _ _ g x (HI.out.ext (by (· repeat (first | (with_reducible assumption) | exact Ext.refl _ | refine Ext.alloc ?_ _ | refine Ext.drew ?_ | refine Ext.drewN ?_ _ | (apply Ext.snart; (with_reducible assumption)))))) (by omega) _ hs1 (-1) (by decide) _ hs2 _ _ _ (HL.out.ext (by (· repeat (first | (with_reducible assumption) | exact Ext.refl _ | refine Ext.alloc ?_ _ | refine Ext.drew ?_ | refine Ext.drewN ?_ _ | (apply Ext.snart; (with_reducible assumption)))))) hlen (by omega)).mono ?_
                rintro e w' ⟨ev', rfl, hev', hx'⟩
                rw [HZ.out] at hev' ⊢
                dsimp only at hev' ⊢
                obtain ⟨ea', ec', rfl, -, -⟩ := hev'.slice
                have hx0' : Ext wo w' := (show Ext wo _ by (· repeat (first | (with_reducible assumption) | exact Ext.refl _ | refine Ext.alloc ?_ _ | refine Ext.drew ?_ | refine Ext.drewN ?_ _ | (apply Ext.snart; (with_reducible assumption))))).trans hx'
                have hsx' : wo.heap.size + 1 ≤ w'.heap.size := by have h : (wo.alloc (.cells #[.string ⟨#[]⟩, .string ⟨#[]⟩, .int .i64 0, .slice none 0 0] 31)).heap.size ≤ w'.heap.size := hx'.size; (try simp only [heap_alloc_sz] at h); omega
                have hev' := hev'.upto.mono (S' := fun k => wo.heap.size + 1 ≤ k ∧ k < w'.heap.size) (fun k hk _ => ⟨by have h : (wo.alloc (.cells #[.string ⟨#[]⟩, .string ⟨#[]⟩, .int .i64 0, .slice none 0 0] 31)).heap.size ≤ k := hk.1; (try simp only [heap_alloc_sz] at h); omega, hk.2⟩)
                (refine hK.out _ _ ?_; clear hK K)
                (refine wpAnyT_any (i := 17) (v := ?_) rfl (by kernel_rfl) (by kernel_rfl) (by kernel_rfl) (by kernel_rfl) (fun _ _ _ h => h) (Or.inl ⟨by rfl, ?_⟩) ?_; rotate_left; ((intro wS hSw; (try simp only [List.getElem_toArray, List.getElem_cons_zero, List.getElem_cons_succ]); go_simp); (try with_reducible rfl)); (try simp only [Act.put, List.getElem_toArray, List.getElem_cons_zero, List.getElem_cons_succ, List.setIfInBounds_toArray, List.set_cons_zero, List.set_cons_succ]))
                (refine wpAnyT_any (i := 18) (v := ?_) rfl (by kernel_rfl) (by kernel_rfl) (by kernel_rfl) (by kernel_rfl) (fun _ _ _ h => h) (Or.inl ⟨by rfl, ?_⟩) ?_; rotate_left; ((intro wS hSw; (try simp only [List.getElem_toArray, List.getElem_cons_zero, List.getElem_cons_succ]); go_simp); (try with_reducible rfl)); (try simp only [Act.put, List.getElem_toArray, List.getElem_cons_zero, List.getElem_cons_succ, List.setIfInBounds_toArray, List.set_cons_zero, List.set_cons_succ]))
                (refine wpAnyT_any (i := 19) (v := ?_) rfl (by kernel_rfl) (by kernel_rfl) (by kernel_rfl) (by kernel_rfl) (fun _ _ _ h => h) (Or.inl ⟨by rfl, ?_⟩) ?_; rotate_left; ((intro wS hSw; (try simp only [List.getElem_toArray, List.getElem_cons_zero, List.getElem_cons_succ]); go_simp); (try with_reducible rfl)); (try simp only [Act.put, List.getElem_toArray, List.getElem_cons_zero, List.getElem_cons_succ, List.setIfInBounds_toArray, List.set_cons_zero, List.set_cons_succ]))
                (refine wpAnyT_any (i := 20) (v := ?_) rfl (by kernel_rfl) (by kernel_rfl) (by kernel_rfl) (by kernel_rfl) (fun _ _ _ h => h) (Or.inl ⟨by rfl, ?_⟩) ?_; rotate_left; ((intro wS hSw; (try simp only [List.getElem_toArray, List.getElem_cons_zero, List.getElem_cons_succ]); go_simp); (try with_reducible rfl)); (try simp only [Act.put, List.getElem_toArray, List.getElem_cons_zero, List.getElem_cons_succ, List.setIfInBounds_toArray, List.set_cons_zero, List.set_cons_succ]))
                refine wpAnyT_all (rs := [21]) (by kernel_rfl) (by decide) (AllT.consS rfl (fun K hK => ?_) AllT.nil)
                go_simp
                (refine hK.out _ _ (keep3 (show Ext wo _ by (· repeat (first | (with_reducible assumption) | exact Ext.refl _ | refine Ext.alloc ?_ _ | refine Ext.drew ?_ | refine Ext.drewN ?_ _ | (apply Ext.snart; (with_reducible assumption))))) d1 d2 d5) (fun hS => ?_); clear hK K)
                have hA : (w'.alloc (.cells #[.int .i64 0, .int .i64 0, .int .i64 0, .bool false] 29)).heap[w'.heap.size]? = some (.cells #[.int .i64 0, .int .i64 0, .int .i64 0, .bool false] 29 (0, 0)) := heap_alloc_new _ _
                have hB : (w'.alloc (.cells #[.int .i64 0, .int .i64 0, .int .i64 0, .bool false] 29)).heap[wo.heap.size]? = some (.cells #[.string ⟨#[]⟩, .string ⟨#[]⟩, .int .i64 0, .slice none 0 0] 31 (0, 0)) := (Below.block ((Ext.refl w').alloc _) _ (by omega)).trans ((Below.block hx' _ (by simp)).trans (heap_alloc_new wo _))
                have hxW : Ext wo (w'.alloc (.cells #[.int .i64 0, .int .i64 0, .int .i64 0, .bool false] 29)) := by (· repeat (first | (with_reducible assumption) | exact Ext.refl _ | refine Ext.alloc ?_ _ | refine Ext.drew ?_ | refine Ext.drewN ?_ _ | (apply Ext.snart; (with_reducible assumption))))
                have hevW : RdS rE (w'.alloc (.cells #[.int .i64 0, .int .i64 0, .int .i64 0, .bool false] 29)) (fun k => wo.heap.size ≤ k ∧ k ≠ w'.heap.size ∧ k ≠ wo.heap.size) (.slice ea' ces.length ec') ces := (hev'.ext (show Ext w' _ by (· repeat (first | (with_reducible assumption) | exact Ext.refl _ | refine Ext.alloc ?_ _ | refine Ext.drew ?_ | refine Ext.drewN ?_ _ | (apply Ext.snart; (with_reducible assumption)))))).mono (fun k hk _ => by have h1 := hk.1; have h2 := hk.2; refine ⟨?_, ?_, ?_⟩ <;> omega)
                have hAB : ¬ w'.heap.size = wo.heap.size := by omega
                have hgA : wo.heap.size ≤ w'.heap.size := by omega
                have hgB : wo.heap.size ≤ wo.heap.size := by omega
                obtain ⟨W0, hW0⟩ : ∃ W0, W0 = w'.alloc (.cells #[.int .i64 0, .int .i64 0, .int .i64 0, .bool false] 29) := ⟨_, rfl⟩
                rw [← hW0] at hA hB hxW hevW ⊢
                clear hW0
                have HA := hid hA
                have HB := hid hB
                have HEVW := hid hevW
                have HXW := hid hxW
                have yA0 : W0.cell? ⟨w'.heap.size, 0, none⟩ = some (.int .i64 0) := (cell_of_row _ _ 0 _ _ _ HA.out).trans rfl
                have xA0 := frozen_blk HA.out 0
                have yA1 : W0.cell? ⟨w'.heap.size, 1, none⟩ = some (.int .i64 0) := (cell_of_row _ _ 1 _ _ _ HA.out).trans rfl
                have xA1 := frozen_blk HA.out 1
                have yA2 : W0.cell? ⟨w'.heap.size, 2, none⟩ = some (.int .i64 0) := (cell_of_row _ _ 2 _ _ _ HA.out).trans rfl
                have xA2 := frozen_blk HA.out 2
                have yA3 : W0.cell? ⟨w'.heap.size, 3, none⟩ = some (.bool false) := (cell_of_row _ _ 3 _ _ _ HA.out).trans rfl
                have xA3 := frozen_blk HA.out 3
                have yB0 : W0.cell? ⟨wo.heap.size, 0, none⟩ = some (.string ⟨#[]⟩) := (cell_of_row _ _ 0 _ _ _ HB.out).trans rfl
                have xB0 := frozen_blk HB.out 0
                have yB1 : W0.cell? ⟨wo.heap.size, 1, none⟩ = some (.string ⟨#[]⟩) := (cell_of_row _ _ 1 _ _ _ HB.out).trans rfl
                have xB1 := frozen_blk HB.out 1
                have yB2 : W0.cell? ⟨wo.heap.size, 2, none⟩ = some (.int .i64 0) := (cell_of_row _ _ 2 _ _ _ HB.out).trans rfl
                have xB2 := frozen_blk HB.out 2
                have yB3 : W0.cell? ⟨wo.heap.size, 3, none⟩ = some (.slice none 0 0) := (cell_of_row _ _ 3 _ _ _ HB.out).trans rfl
                have xB3 := frozen_blk HB.out 3
                have hBA : ¬ wo.heap.size = w'.heap.size := by omega
                clear hA hB hxW hevW hev' hx' hsx' hx0' d1 d2 d5
                refine wpAnyT_all (rs := [23]) (by kernel_rfl) (by decide) (AllT.consF rfl rfl (fun K hK => ?_) AllT.nil)
                go_simp
                (refine hK.out _ _ ?_; clear hK K)
                refine wpAnyT_all (rs := [24]) (by kernel_rfl) (by decide) (AllT.consF rfl rfl (fun K hK => ?_) AllT.nil)
                go_simp
                (refine hK.out _ _ ?_; clear hK K)
                refine wpAnyT_all (rs := [25]) (by kernel_rfl) (by decide) (AllT.consF rfl rfl (fun K hK => ?_) AllT.nil)
                go_simp
                (refine hK.out _ _ ?_; clear hK K)
                refine wpAnyT_done (by kernel_rfl) (NoPanic.normal ?_) _
                go_wp2_with fail
                go_meet
                obtain ⟨qA, qB⟩ := eight_cells (u0 := .int .i64 zf1) (u1 := .int .i64 zp1) (u2 := .int .i64 zc1) (u3 := .bool zg1) (v0 := .string cs1) (v1 := .string ck1) (v2 := .int .i64 cf1) (v3 := .slice ea' ces.length ec') HA.out HB.out hAB
                exact ⟨_, _, _, rfl, rfl, rfl, hgB, hgA, ⟨(cell_of_row _ _ 0 _ _ _ qA).trans rfl, (cell_of_row _ _ 1 _ _ _ qA).trans rfl, (cell_of_row _ _ 2 _ _ _ qA).trans rfl, (cell_of_row _ _ 3 _ _ _ qA).trans rfl⟩, ⟨(cell_of_row _ _ 0 _ _ _ qB).trans rfl, (cell_of_row _ _ 1 _ _ _ qB).trans rfl, (cell_of_row _ _ 2 _ _ _ qB).trans rfl, (cell_of_row _ _ 3 _ _ _ qB).trans rfl⟩, (HEVW.out.kept (eight_keep (fun h => h.2.1 rfl) (fun h => h.2.2 rfl))).mono (fun k hk _ => hk.1), eight_ext HXW.out hgA hgB⟩
              · go_simp
                (refine hK.out _ _ (keep3 (show Ext wo _ by (· repeat (first | (with_reducible assumption) | exact Ext.refl _ | refine Ext.alloc ?_ _ | refine Ext.drew ?_ | refine Ext.drewN ?_ _ | (apply Ext.snart; (with_reducible assumption))))) d1 d2 d5) (fun hS => ?_); clear hK K)
                refine wpAnyT_all (rs := [16]) (by kernel_rfl) (by decide) (AllT.consF rfl rfl (fun K hK => ?_) AllT.nil)
                go_simp
                go_at_call 17
                refine (Try_idx _ _ g x (HI.out.ext (by (· repeat (first | (with_reducible assumption) | exact Ext.refl _ | refine Ext.alloc ?_ _ | refine Ext.drew ?_ | refine Ext.drewN ?_ _ | (apply Ext.snart; (with_reducible assumption)))))) (by omega) _ hs1 (-1) (by decide) _ hs2 _ _ _ (HL.out.ext (by (· repeat (first | (with_reducible assumption) | exact Ext.refl _ | refine Ext.alloc ?_ _ | refine Ext.drew ?_ | refine Ext.drewN ?_ _ | (apply Ext.snart; (with_reducible assumption)))))) hlen (by omega)).mono ?_
                rintro e w' ⟨ev', rfl, hev', hx'⟩
                rw [HZ.out] at hev' ⊢
                dsimp only at hev' ⊢
                obtain ⟨ea', ec', rfl, -, -⟩ := hev'.slice
                have hx0' : Ext wo w' := (show Ext wo _ by (· repeat (first | (with_reducible assumption) | exact Ext.refl _ | refine Ext.alloc ?_ _ | refine Ext.drew ?_ | refine Ext.drewN ?_ _ | (apply Ext.snart; (with_reducible assumption))))).trans hx'
                have hsx' : wo.heap.size + 2 ≤ w'.heap.size := by have h : ((wo.alloc (.cells #[.string ⟨#[]⟩, .string ⟨#[]⟩, .int .i64 0, .slice none 0 0] 31)).alloc (.cells #[.int .i64 0, .int .i64 0, .int .i64 0, .bool false] 29)).heap.size ≤ w'.heap.size := hx'.size; (try simp only [heap_alloc_sz] at h); omega
                have hev' := hev'.upto.mono (S' := fun k => wo.heap.size + 2 ≤ k ∧ k < w'.heap.size) (fun k hk _ => ⟨by have h : ((wo.alloc (.cells #[.string ⟨#[]⟩, .string ⟨#[]⟩, .int .i64 0, .slice none 0 0] 31)).alloc (.cells #[.int .i64 0, .int .i64 0, .int .i64 0, .bool false] 29)).heap.size ≤ k := hk.1; (try simp only [heap_alloc_sz] at h); omega, hk.2⟩)
                (refine hK.out _ _ ?_; clear hK K)
                (refine wpAnyT_any (i := 17) (v := ?_) rfl (by kernel_rfl) (by kernel_rfl) (by kernel_rfl) (by kernel_rfl) (fun _ _ _ h => h) (Or.inl ⟨by rfl, ?_⟩) ?_; rotate_left; ((intro wS hSw; (try simp only [List.getElem_toArray, List.getElem_cons_zero, List.getElem_cons_succ]); go_simp); (try with_reducible rfl)); (try simp only [Act.put, List.getElem_toArray, List.getElem_cons_zero, List.getElem_cons_succ, List.setIfInBounds_toArray, List.set_cons_zero, List.set_cons_succ]))
                (refine wpAnyT_any (i := 18) (v := ?_) rfl (by kernel_rfl) (by kernel_rfl) (by kernel_rfl) (by kernel_rfl) (fun _ _ _ h => h) (Or.inl ⟨by rfl, ?_⟩) ?_; rotate_left; ((intro wS hSw; (try simp only [List.getElem_toArray, List.getElem_cons_zero, List.getElem_cons_succ]); go_simp); (try with_reducible rfl)); (try simp only [Act.put, List.getElem_toArray, List.getElem_cons_zero, List.getElem_cons_succ, List.setIfInBounds_toArray, List.set_cons_zero, List.set_cons_succ]))
                (refine wpAnyT_any (i := 19) (v := ?_) rfl (by kernel_rfl) (by kernel_rfl) (by kernel_rfl) (by kernel_rfl) (fun _ _ _ h => h) (Or.inl ⟨by rfl, ?_⟩) ?_; rotate_left; ((intro wS hSw; (try simp only [List.getElem_toArray, List.getElem_cons_zero, List.getElem_cons_succ]); go_simp); (try with_reducible rfl)); (try simp only [Act.put, List.getElem_toArray, List.getElem_cons_zero, List.getElem_cons_succ, List.setIfInBounds_toArray, List.set_cons_zero, List.set_cons_succ]))
                (refine wpAnyT_any (i := 20) (v := ?_) rfl (by kernel_rfl) (by kernel_rfl) (by kernel_rfl) (by kernel_rfl) (fun _ _ _ h => h) (Or.inl ⟨by rfl, ?_⟩) ?_; rotate_left; ((intro wS hSw; (try simp only [List.getElem_toArray, List.getElem_cons_zero, List.getElem_cons_succ]); go_simp); (try with_reducible rfl)); (try simp only [Act.put, List.getElem_toArray, List.getElem_cons_zero, List.getElem_cons_succ, List.setIfInBounds_toArray, List.set_cons_zero, List.set_cons_succ]))
                have hA : (w').heap[(wo.heap.size + 1)]? = some (.cells #[.int .i64 0, .int .i64 0, .int .i64 0, .bool false] 29 (0, 0)) := (Below.block hx' _ (by simp)).trans (alloc_two_b wo _ _ _)
                have hB : (w').heap[wo.heap.size]? = some (.cells #[.string ⟨#[]⟩, .string ⟨#[]⟩, .int .i64 0, .slice none 0 0] 31 (0, 0)) := (Below.block hx' _ (by simp; omega)).trans (alloc_two_a wo _ _ _)
                have hxW : Ext wo (w') := hx0'
                have hevW : RdS rE (w') (fun k => wo.heap.size ≤ k ∧ k ≠ (wo.heap.size + 1) ∧ k ≠ wo.heap.size) (.slice ea' ces.length ec') ces := (hev'.ext (show Ext w' _ by (· repeat (first | (with_reducible assumption) | exact Ext.refl _ | refine Ext.alloc ?_ _ | refine Ext.drew ?_ | refine Ext.drewN ?_ _ | (apply Ext.snart; (with_reducible assumption)))))).mono (fun k hk _ => by have h1 := hk.1; have h2 := hk.2; refine ⟨?_, ?_, ?_⟩ <;> omega)
                have hAB : ¬ (wo.heap.size + 1) = wo.heap.size := by omega
                have hgA : wo.heap.size ≤ (wo.heap.size + 1) := by omega
                have hgB : wo.heap.size ≤ wo.heap.size := by omega
                obtain ⟨W0, rfl⟩ : ∃ W0 : World, W0 = w' := ⟨_, rfl⟩
                have HA := hid hA
                have HB := hid hB
                have HEVW := hid hevW
                have HXW := hid hxW
                have yA0 : W0.cell? ⟨(wo.heap.size + 1), 0, none⟩ = some (.int .i64 0) := (cell_of_row _ _ 0 _ _ _ HA.out).trans rfl
                have xA0 := frozen_blk HA.out 0
                have yA1 : W0.cell? ⟨(wo.heap.size + 1), 1, none⟩ = some (.int .i64 0) := (cell_of_row _ _ 1 _ _ _ HA.out).trans rfl
                have xA1 := frozen_blk HA.out 1
                have yA2 : W0.cell? ⟨(wo.heap.size + 1), 2, none⟩ = some (.int .i64 0) := (cell_of_row _ _ 2 _ _ _ HA.out).trans rfl
                have xA2 := frozen_blk HA.out 2
                have yA3 : W0.cell? ⟨(wo.heap.size + 1), 3, none⟩ = some (.bool false) := (cell_of_row _ _ 3 _ _ _ HA.out).trans rfl
                have xA3 := frozen_blk HA.out 3
                have yB0 : W0.cell? ⟨wo.heap.size, 0, none⟩ = some (.string ⟨#[]⟩) := (cell_of_row _ _ 0 _ _ _ HB.out).trans rfl
                have xB0 := frozen_blk HB.out 0
                have yB1 : W0.cell? ⟨wo.heap.size, 1, none⟩ = some (.string ⟨#[]⟩) := (cell_of_row _ _ 1 _ _ _ HB.out).trans rfl
                have xB1 := frozen_blk HB.out 1
                have yB2 : W0.cell? ⟨wo.heap.size, 2, none⟩ = some (.int .i64 0) := (cell_of_row _ _ 2 _ _ _ HB.out).trans rfl
                have xB2 := frozen_blk HB.out 2
                have yB3 : W0.cell? ⟨wo.heap.size, 3, none⟩ = some (.slice none 0 0) := (cell_of_row _ _ 3 _ _ _ HB.out).trans rfl
                have xB3 := frozen_blk HB.out 3
                have hBA : ¬ wo.heap.size = (wo.heap.size + 1) := by omega
                clear hA hB hxW hevW hev' hx' hsx' hx0' d1 d2 d5
                refine wpAnyT_all (rs := [23]) (by kernel_rfl) (by decide) (AllT.consF rfl rfl (fun K hK => ?_) AllT.nil)
                go_simp
                (refine hK.out _ _ ?_; clear hK K)
                refine wpAnyT_all (rs := [24]) (by kernel_rfl) (by decide) (AllT.consF rfl rfl (fun K hK => ?_) AllT.nil)
                go_simp
                (refine hK.out _ _ ?_; clear hK K)
                refine wpAnyT_all (rs := [25]) (by kernel_rfl) (by decide) (AllT.consF rfl rfl (fun K hK => ?_) AllT.nil)
                go_simp
                (refine hK.out _ _ ?_; clear hK K)
                refine wpAnyT_done (by kernel_rfl) (NoPanic.normal ?_) _
                go_wp2_with fail
                go_meet
                obtain ⟨qA, qB⟩ := eight_cells (u0 := .int .i64 zf1) (u1 := .int .i64 zp1) (u2 := .int .i64 zc1) (u3 := .bool zg1) (v0 := .string cs1) (v1 := .string ck1) (v2 := .int .i64 cf1) (v3 := .slice ea' ces.length ec') HA.out HB.out hAB
                exact ⟨_, _, _, rfl, rfl, rfl, hgB, hgA, ⟨(cell_of_row _ _ 0 _ _ _ qA).trans rfl, (cell_of_row _ _ 1 _ _ _ qA).trans rfl, (cell_of_row _ _ 2 _ _ _ qA).trans rfl, (cell_of_row _ _ 3 _ _ _ qA).trans rfl⟩, ⟨(cell_of_row _ _ 0 _ _ _ qB).trans rfl, (cell_of_row _ _ 1 _ _ _ qB).trans rfl, (cell_of_row _ _ 2 _ _ _ qB).trans rfl, (cell_of_row _ _ 3 _ _ _ qB).trans rfl⟩, (HEVW.out.kept (eight_keep (fun h => h.2.1 rfl) (fun h => h.2.2 rfl))).mono (fun k hk _ => hk.1), eight_ext HXW.out hgA hgB⟩
          case rest =>
            obtain ⟨gA, gB, ev, rfl, rfl, rfl, hgB, hgA, -, ⟨b0, b1, b2, b3⟩, hev, hxc⟩ := hcut
            dsimp only at b0 b1 b2 b3 hev
            obtain ⟨ea, ec, rfl, -, hec⟩ := hev.slice
            have hbl : ces.length ≤ 9223372036854775807 := by obtain ⟨_, _, e, h1, h2⟩ := hev.slice; omega
            have HEV := hid hev
            have HXC := hid hxc
            have hsxc := hxc.size
            clear hev hxc d1 d2 d5
            by_cases he0 : er1 = 0
            · subst he0
              by_cases hl0 : 0 < ces.length
              · have hta := try_add (x := x) (s := cst) (n := -1) (k := cky) (l := cl) (by rw [HZ.out]) (by rw [HZ.out]; exact hl0)
                rw [HZ.out] at hta
                obtain ⟨hk0, hadd⟩ := hta
                have hnew := tryF_new (x := x) (s := cst) (n := -1) (k := cky) (l := cl) (by rw [HZ.out]) hk0
                have hzz := hnew.2.2
                rw [HZ.out] at hzz
                simp only [Prod.mk.injEq] at hzz
                obtain ⟨-, ⟨hq1, hq2, hq3, hq4⟩, -⟩ := hzz
                subst hq1 hq2 hq4
                have HQ3 := hid hq3
                have hq5 : (0 : Int) ≤ cf1 ∧ cf1 ≤ 100000 := by omega
                obtain ⟨hq5, hq6⟩ := hq5
                have HADD := hid hadd
                have HRE2 := hid (Reach.add _ HRE.out hadd)
                have hlen2 := addF_len x (cs1, ck1, cf1, ces)
                have HLEN2 := hid hlen2
                clear hk0 hnew hadd hlen2 hq3
                go_wp2_with fail
                refine (Add_idx wc _ g x ((HI.out.mono (T' := fun k => w.heap.size ≤ k ∧ k < wo.heap.size ∧ k ≠ gR) (fun k hk _ => hk)).ext HXC.out) (by omega) cs1 hs1 ck1 hs2 cf1 ⟨by omega, by omega⟩ (fun k => wo.heap.size ≤ k) (fun j hj h => by have h1 : wo.heap.size ≤ j := hj; have h2 := h.2.1; omega) _ ces HEV.out hbl (by omega)).mono ?_
                rintro e w9 ⟨rfl, hi9, hk9⟩
                rw [HADD.out]
                have HI9 := hid hi9
                have HX9 := hid (show Ext w w9 from Below.trans (HX.out.trans HXC.out) (hk9.below w.heap.size ((HX.out.trans HXC.out).size) (fun k hk h => by have := h.1; omega)))
                have HS9 := hid hk9.size
                have HROW9 := hid ((hk9.block gR (fun h => h.2.2 rfl) (by omega)).trans ((Below.block HXC.out gR hgR).trans HROW.out))
                clear hi9 hk9 b0 b1 b2 b3
                go_wp2_with fail
                go_roundw
                case rel => exact ⟨i + 1, _, by go_num, by omega, by omega, HI9.out.mono (fun k hk hl => by have := HX.out.size; rcases hk with h | h; exact ⟨h.1, hl, h.2.2⟩; exact ⟨by omega, hl, by have := h.1; omega⟩), HRE2.out, by have := HLEN2.out.2; omega, HX9.out, addF_key HKEY.out, HROW9.out⟩
                case measure => simp [intOf]; omega
              · have hz0 : ces.length = 0 := by omega
                rw [hz0] at b3
                clear b0 b1 b2
                go_wp2_with fail
                go_roundw
                case rel => exact ⟨i + 1, x, by go_num, by omega, by omega, (HI.out.ext HXC.out).mono (fun k hk hl => ⟨hk.1, hl, hk.2.2⟩), HRE.out, by omega, HX.out.trans HXC.out, HKEY.out, (Below.block HXC.out gR hgR).trans HROW.out⟩
                case measure => simp [intOf]; omega
            · have he1 : ((er1 : Int) == 0) = false := by rw [beq_eq_false_iff_ne]; omega
              have he2 : ((er1 : Int) != 0) = true := by rw [bne_iff_ne]; omega
              clear b0 b1 b2 b3
              go_wp2_with fail
              go_roundw
              case rel => exact ⟨i + 1, x, by go_num, by omega, by omega, (HI.out.ext HXC.out).mono (fun k hk hl => ⟨hk.1, hl, hk.2.2⟩), HRE.out, by omega, HX.out.trans HXC.out, HKEY.out, (Below.block HXC.out gR hgR).trans HROW.out⟩
              case measure => simp [intOf]; omega
        · have hex : ¬ i < cs.length ∨ (i < cs.length ∧ ¬ i < 40) := by omega
          have hxw := hx.size
          clear hgo hx
          have hnn := tryF_key (n := n) (l := o) HNM.out HKEY.out
          have hkf : keyF x bk = (bs, (0, 0, (bes.length : Int), false), true) := by unfold keyF; rw [HKEY.out]
          have HNN := hid hnn
          have HKF := hid hkf
          clear hnn hkf
          rcases hex with h | ⟨h1, h2⟩
          all_goals
            go_wp2_with fail
            refine (Len_idx wo _ g x HI.out (by omega)).mono ?_
            rintro e wA ⟨rfl, rfl⟩
            go_wp2_with fail
            refine (Try_idx wo _ g x HI.out (by omega) bs hss n ⟨hn1, hn2⟩ bk hks _ _ o (HO.out.ext HX.out) (by omega) (by have := HRE.out.str bs; omega)).mono ?_
            rintro e wB ⟨ev2, rfl, hev2, hxB⟩
            rw [HNN.out] at hev2 ⊢
            dsimp only [bat0] at hev2 ⊢
            obtain ⟨fa, fc, rfl, -, -⟩ := hev2.slice
            have HXB := hid hxB
            have hsB := hxB.size
            clear hev2 hxB
            go_wp2_with fail
            obtain ⟨wC, hwC⟩ : ∃ wC, wC = (wB.alloc (.cells #[.int .i64 0, .int .i64 0, .int .i64 (bes.length : Int), .bool true] 29)).alloc (.cells #[.string ⟨#[]⟩, .string ⟨#[]⟩, .int .i64 0, .slice fa 0 fc] 31) := ⟨_, rfl⟩
            rw [← hwC]
            have hxBC : Ext wB wC := by rw [hwC]; exact ((Ext.refl _).alloc _).alloc _
            have hrP : wC.heap[wB.heap.size]? = some (.cells #[.int .i64 0, .int .i64 0, .int .i64 (bes.length : Int), .bool true] 29 (0, 0)) := by rw [hwC]; exact alloc_two_a _ _ _ _
            have hrQ : wC.heap[wB.heap.size + 1]? = some (.cells #[.string ⟨#[]⟩, .string ⟨#[]⟩, .int .i64 0, .slice fa 0 fc] 31 (0, 0)) := by rw [hwC]; exact alloc_two_b _ _ _ _
            have hsC : wC.heap.size = wB.heap.size + 2 := by rw [hwC]; simp
            clear hwC
            obtain ⟨gP, hgP⟩ : ∃ gP, gP = wB.heap.size := ⟨_, rfl⟩
            obtain ⟨gQ, hgQ⟩ : ∃ gQ, gQ = wB.heap.size + 1 := ⟨_, rfl⟩
            rw [← hgQ] at hrQ ⊢
            rw [← hgP] at hrP ⊢
            have hgP2 : gP < wC.heap.size := by omega
            have hgQ2 : gQ < wC.heap.size := by omega
            have HRP := hid hrP
            have HRQ := hid hrQ
            have HXC := hid (HXB.out.trans hxBC)
            clear hrP hrQ hxBC hsC hgP hgQ
            refine (Keyed_idx wC _ g x (HI.out.ext HXC.out) bk hks).mono ?_
            rw [HKF.out]
            rintro e wD ⟨rfl, hxD⟩
            dsimp only
            have hrP := (Below.block hxD gP hgP2).trans HRP.out
            have hrQ := (Below.block hxD gQ hgQ2).trans HRQ.out
            have hrR := (Below.block (HXC.out.trans hxD) gR hgR).trans HROW.out
            have p0 : wD.cell? ⟨gP, 0, none⟩ = some (.int .i64 0) := (cell_of_row _ _ 0 _ _ _ hrP).trans rfl
            have p1 : wD.cell? ⟨gP, 1, none⟩ = some (.int .i64 0) := (cell_of_row _ _ 1 _ _ _ hrP).trans rfl
            have p2 : wD.cell? ⟨gP, 2, none⟩ = some (.int .i64 (bes.length : Int)) := (cell_of_row _ _ 2 _ _ _ hrP).trans rfl
            have p3 : wD.cell? ⟨gP, 3, none⟩ = some (.bool true) := (cell_of_row _ _ 3 _ _ _ hrP).trans rfl
            have q3 : wD.cell? ⟨gQ, 3, none⟩ = some (.slice fa 0 fc) := (cell_of_row _ _ 3 _ _ _ hrQ).trans rfl
            have r0 : wD.cell? ⟨gR, 0, none⟩ = some (.int .i64 0) := (cell_of_row _ _ 0 _ _ _ hrR).trans rfl
            have r1 : wD.cell? ⟨gR, 1, none⟩ = some (.int .i64 0) := (cell_of_row _ _ 1 _ _ _ hrR).trans rfl
            have r2 : wD.cell? ⟨gR, 2, none⟩ = some (.int .i64 (bes.length : Int)) := (cell_of_row _ _ 2 _ _ _ hrR).trans rfl
            have r3 : wD.cell? ⟨gR, 3, none⟩ = some (.bool false) := (cell_of_row _ _ 3 _ _ _ hrR).trans rfl
            have m1 := (Array.getElem?_eq_some_iff.1 hrP).1
            have m2 := (Array.getElem?_eq_some_iff.1 hrQ).1
            have m3 := (Array.getElem?_eq_some_iff.1 hrR).1
            have m4 : ¬ gP = wD.heap.size := by omega
            have m5 : ¬ wD.heap.size = gP := by omega
            have m6 : ¬ gQ = wD.heap.size := by omega
            have m7 : ¬ wD.heap.size = gQ := by omega
            have m8 : ¬ gR = wD.heap.size := by omega
            have m9 : ¬ wD.heap.size = gR := by omega
            have e1 := str_tt (a := bs) rfl
            have HID := hid (HI.out.ext (HXC.out.trans hxD))
            have HXD := hid (HX.out.trans (HXC.out.trans hxD))
            clear hrP hrQ hrR hxD
            go_wp2_with fail
            refine (Len_idx _ _ g x (HID.out.ext (by (· repeat (first | (with_reducible assumption) | exact Ext.refl _ | refine Ext.alloc ?_ _ | refine Ext.drew ?_ | refine Ext.drewN ?_ _ | (apply Ext.snart; (with_reducible assumption)))))) (by omega)).mono ?_
            rintro e wE ⟨rfl, rfl⟩
            go_wp2_with fail
            go_ret
            exact ⟨rfl, HXD.out.trans (show Ext wD _ by (· repeat (first | (with_reducible assumption) | exact Ext.refl _ | refine Ext.alloc ?_ _ | refine Ext.drew ?_ | refine Ext.drewN ?_ _ | (apply Ext.snart; (with_reducible assumption)))))⟩
  · have t1 : ((er : Int) == 0) = false := by rw [beq_eq_false_iff_ne]; omega
    have t2 : ((er : Int) != 0) = true := by rw [bne_iff_ne]; omega
    clear h1
    go_wp2_with fail
    go_ret
    exact ⟨rfl, HX1.out.trans (HX2.out.trans (HX4.out.trans (by show Ext w4 _; (· repeat (first | (with_reducible assumption) | exact Ext.refl _ | refine Ext.alloc ?_ _ | refine Ext.drew ?_ | refine Ext.drewN ?_ _ | (apply Ext.snart; (with_reducible assumption)))))))⟩
end Go.Proofs.Ythobhkmphjnlaaa
