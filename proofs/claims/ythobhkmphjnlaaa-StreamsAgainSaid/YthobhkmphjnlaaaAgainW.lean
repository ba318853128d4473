/- StreamsAgain, walked. -/
import Derived.Test.YthobhkmphjnlaaaStrJ
import Derived.Test.YthobhkmphjnlaaaStrR
import Derived.Test.YthobhkmphjnlaaaStrQ
import Derived.Test.YthobhkmphjnlaaaRegT
namespace Go.Proofs.Ythobhkmphjnlaaa
open Go.RowKit
set_option linter.unusedVariables false
set_option linter.unusedSimpArgs false

theorem bytes_nil {k : ByteArray} (h : k.size = 0) : k = ⟨#[]⟩ := by
  obtain ⟨a⟩ := k
  have h1 : a.size = 0 := h
  rw [Array.eq_empty_of_size_eq_zero h1]

set_option maxRecDepth 100000 in
set_option maxHeartbeats 8000000 in
theorem streamsAgain_walk (w : World) (sv : Value) (cs : List Cl) (hs : RdS rCl w (fun k => k < w.heap.size) sv cs) :
    Calls Try.prog 6 #[sv] w fun e w' => e = .returned (.bool true) ∧ Below w.heap.size w w' := by
  obtain ⟨sa, sc, rfl, hsc1, hsc2⟩ := hs.slice
  have HS := hid hs
  clear hs
  go_enter Try.func6, Try.ntmps6
  go_wp2_with fail
  refine (awake10_any w).mono ?_
  rintro e w1 ⟨rfl, hx1⟩
  have HX1 := hid hx1
  clear hx1
  go_wp2_with fail
  refine (New_idx w1).mono ?_
  rintro e w2 ⟨g, rfl, hi2, hx2⟩
  have HI2 := hid hi2
  have HX2 := hid hx2
  clear hi2 hx2
  go_wp2_with fail
  refine (New_idx w2).mono ?_
  rintro e w3 ⟨h, rfl, hi3, hx3⟩
  have HI3 := hid hi3
  have HX3 := hid hx3
  clear hi3 hx3
  go_wp2_with fail
  go_loopw [6] (fun u6 wr => ∃ i : Nat, ∃ x : Ix, ∃ T1 T2 : Nat → Prop, u6 = .int .i64 i ∧ i ≤ 40 ∧ i ≤ cs.length ∧ Idx T1 wr g x ∧ Idx T2 wr h x ∧ (∀ k, T1 k → w.heap.size ≤ k ∧ k < wr.heap.size ∧ ¬ T2 k) ∧ (∀ k, T2 k → w.heap.size ≤ k ∧ k < wr.heap.size) ∧ Reach x ∧ x.all.length ≤ 16 * i ∧ Ext w wr) (fun u6 _ => 40 - (intOf u6).toNat)
  case atStart =>
    have a1 := HX1.out.size
    have a2 := HX2.out.size
    have a3 := HX3.out.size
    exact ⟨0, ix0, _, _, rfl, by omega, by omega, HI2.out.ext HX3.out, HI3.out, fun k hk => ⟨by have := hk.1; omega, by have := hk.2; omega, fun hh => by have := hk.2; have := hh.1; omega⟩, fun k hk => ⟨by have := hk.1; omega, hk.2⟩, .zero, by simp [ix0], HX1.out.trans (HX2.out.trans HX3.out)⟩
  case round =>
    clear HI2 HI3 HX1 HX2 HX3
    obtain ⟨wo, rfl⟩ : ∃ wo : World, wo = wr := ⟨_, rfl⟩
    obtain ⟨i, x, T1, T2, rfl, hi40, hil, hidx, hidy, ht1, ht2, hre, hall, hx⟩ := hrel
    have HI := hid hidx
    have HJ := hid hidy
    have HT1 := hid ht1
    have HT2 := hid ht2
    have HRE := hid hre
    have HX := hid hx
    clear hidx hidy ht1 ht2 hre
    by_cases hgo : i < cs.length ∧ i < 40
    · obtain ⟨hlt, hlt40⟩ := hgo
      obtain ⟨gl, ol, cap, lv, bev, e, hgl, -, d0, d1, d2, d3, d4, d5, -, -, -, -, -, hs1, hs2, -, -, hL, -⟩ := (HS.out.ext hx).atCl i hlt
      simp only [Value.slice.injEq] at e
      obtain ⟨rfl, -, rfl⟩ := e
      obtain ⟨la, lc, rfl, -, -⟩ := hL.slice
      generalize cs[i] = c at d0 d1 d2 d3 d4 d5 hs1 hs2 hL
      obtain ⟨ck, cst, cky, cn, cm, cl, cb⟩ := c
      dsimp only at d0 d1 d2 d3 d4 d5 hs1 hs2 hL
      have HL := hid hL
      have hlen : cl.length ≤ 9223372036854775807 := by obtain ⟨_, _, e, h1, h2⟩ := hL.slice; omega
      have hstr := HRE.out.str cst
      clear hL hx d0 d3 d4
      obtain ⟨z, hz⟩ : ∃ z, tryF x cst (-1) cky cl = z := ⟨_, rfl⟩
      have HZ := hid hz
      clear hz
      obtain ⟨⟨zf, zp, zc, zg⟩, ⟨bs, bk, bf, bes⟩, er⟩ := z
      go_upto_region 9 with fail
      go_cut [7, 8, 9] (fun s5 s6 s7 wx => TriedAt wo ((zf, zp, zc, zg), (bs, bk, bf, bes), er) s5 s6 s7 wx)
      case first =>
        go_wp2_with fail
        have hxd : Ext wo wo.drew := by (· repeat (first | (with_reducible assumption) | exact Ext.refl _ | refine Ext.alloc ?_ _ | refine Ext.drew ?_ | refine Ext.drewN ?_ _ | (apply Ext.snart; (with_reducible assumption))))
        refine wp_region_T (fun w' => w'.cell? ⟨gl, ol + i * 10 + 1, none⟩ = some (.string cst) ∧ w'.cell? ⟨gl, ol + i * 10 + 2, none⟩ = some (.string cky) ∧ w'.cell? ⟨gl, ol + i * 10 + 5, none⟩ = some (.slice la cl.length lc)) [16, 17, 18, 19, 20, 23, 24, 25] (by kernel_rfl) (keep3 hxd d1 d2 d5) (fun hS => ?_)
        (refine wpAnyT_take (i := 0) (v := ?_) rfl (by kernel_rfl) (by kernel_rfl) (by kernel_rfl) (by kernel_rfl) (fun _ _ _ h => h) (Or.inl ⟨by rfl, ?_⟩) (by assumption) ?_; rotate_left; ((intro wS hSw; (try dsimp only at hSw); (try simp only [List.getElem_toArray, List.getElem_cons_zero, List.getElem_cons_succ]); go_simp); (try with_reducible rfl)); (try simp only [Act.put, List.getElem_toArray, List.getElem_cons_zero, List.getElem_cons_succ, List.setIfInBounds_toArray, List.set_cons_zero, List.set_cons_succ]))
        (refine wpAnyT_take (i := 1) (v := ?_) rfl (by kernel_rfl) (by kernel_rfl) (by kernel_rfl) (by kernel_rfl) (fun _ _ _ h => h) (Or.inl ⟨by rfl, ?_⟩) (by assumption) ?_; rotate_left; ((intro wS hSw; (try dsimp only at hSw); (try simp only [List.getElem_toArray, List.getElem_cons_zero, List.getElem_cons_succ]); go_simp); (try with_reducible rfl)); (try simp only [Act.put, List.getElem_toArray, List.getElem_cons_zero, List.getElem_cons_succ, List.setIfInBounds_toArray, List.set_cons_zero, List.set_cons_succ]))
        (refine wpAnyT_take (i := 2) (v := ?_) rfl (by kernel_rfl) (by kernel_rfl) (by kernel_rfl) (by kernel_rfl) (fun _ _ _ h => h) (Or.inl ⟨by rfl, ?_⟩) (by assumption) ?_; rotate_left; ((intro wS hSw; (try dsimp only at hSw); (try simp only [List.getElem_toArray, List.getElem_cons_zero, List.getElem_cons_succ]); go_simp); (try with_reducible rfl)); (try simp only [Act.put, List.getElem_toArray, List.getElem_cons_zero, List.getElem_cons_succ, List.setIfInBounds_toArray, List.set_cons_zero, List.set_cons_succ]))
        (refine wpAnyT_take (i := 3) (v := ?_) rfl (by kernel_rfl) (by kernel_rfl) (by kernel_rfl) (by kernel_rfl) (fun _ _ _ h => h) (Or.inl ⟨by rfl, ?_⟩) (by assumption) ?_; rotate_left; ((intro wS hSw; (try dsimp only at hSw); (try simp only [List.getElem_toArray, List.getElem_cons_zero, List.getElem_cons_succ]); go_simp); (try with_reducible rfl)); (try simp only [Act.put, List.getElem_toArray, List.getElem_cons_zero, List.getElem_cons_succ, List.setIfInBounds_toArray, List.set_cons_zero, List.set_cons_succ]))
        (refine wpAnyT_take (i := 4) (v := ?_) rfl (by kernel_rfl) (by kernel_rfl) (by kernel_rfl) (by kernel_rfl) (fun _ _ _ h => h) (Or.inl ⟨by rfl, ?_⟩) (by assumption) ?_; rotate_left; ((intro wS hSw; (try dsimp only at hSw); (try simp only [List.getElem_toArray, List.getElem_cons_zero, List.getElem_cons_succ]); go_simp); (try with_reducible rfl)); (try simp only [Act.put, List.getElem_toArray, List.getElem_cons_zero, List.getElem_cons_succ, List.setIfInBounds_toArray, List.set_cons_zero, List.set_cons_succ]))
        (refine wpAnyT_take (i := 5) (v := ?_) rfl (by kernel_rfl) (by kernel_rfl) (by kernel_rfl) (by kernel_rfl) (fun _ _ _ h => h) (Or.inl ⟨by rfl, ?_⟩) (by assumption) ?_; rotate_left; ((intro wS hSw; (try dsimp only at hSw); (try simp only [List.getElem_toArray, List.getElem_cons_zero, List.getElem_cons_succ]); go_simp); (try with_reducible rfl)); (try simp only [Act.put, List.getElem_toArray, List.getElem_cons_zero, List.getElem_cons_succ, List.setIfInBounds_toArray, List.set_cons_zero, List.set_cons_succ]))
        (refine wpAnyT_take (i := 6) (v := ?_) rfl (by kernel_rfl) (by kernel_rfl) (by kernel_rfl) (by kernel_rfl) (fun _ _ _ h => h) (Or.inl ⟨by rfl, ?_⟩) (by assumption) ?_; rotate_left; ((intro wS hSw; (try dsimp only at hSw); (try simp only [List.getElem_toArray, List.getElem_cons_zero, List.getElem_cons_succ]); go_simp); (try with_reducible rfl)); (try simp only [Act.put, List.getElem_toArray, List.getElem_cons_zero, List.getElem_cons_succ, List.setIfInBounds_toArray, List.set_cons_zero, List.set_cons_succ]))
        (refine wpAnyT_take (i := 7) (v := ?_) rfl (by kernel_rfl) (by kernel_rfl) (by kernel_rfl) (by kernel_rfl) (fun _ _ _ h => h) (Or.inl ⟨by rfl, ?_⟩) (by assumption) ?_; rotate_left; ((intro wS hSw; (try dsimp only at hSw); (try simp only [List.getElem_toArray, List.getElem_cons_zero, List.getElem_cons_succ]); go_simp); (try with_reducible rfl)); (try simp only [Act.put, List.getElem_toArray, List.getElem_cons_zero, List.getElem_cons_succ, List.setIfInBounds_toArray, List.set_cons_zero, List.set_cons_succ]))
        (refine wpAnyT_take (i := 8) (v := ?_) rfl (by kernel_rfl) (by kernel_rfl) (by kernel_rfl) (by kernel_rfl) (fun _ _ _ h => h) (Or.inl ⟨by rfl, ?_⟩) (by assumption) ?_; rotate_left; ((intro wS hSw; (try dsimp only at hSw); (try simp only [List.getElem_toArray, List.getElem_cons_zero, List.getElem_cons_succ]); go_simp); (try with_reducible rfl)); (try simp only [Act.put, List.getElem_toArray, List.getElem_cons_zero, List.getElem_cons_succ, List.setIfInBounds_toArray, List.set_cons_zero, List.set_cons_succ]))
        (refine wpAnyT_take (i := 9) (v := ?_) rfl (by kernel_rfl) (by kernel_rfl) (by kernel_rfl) (by kernel_rfl) (fun _ _ _ h => h) (Or.inl ⟨by rfl, ?_⟩) (by assumption) ?_; rotate_left; ((intro wS hSw; (try dsimp only at hSw); (try simp only [List.getElem_toArray, List.getElem_cons_zero, List.getElem_cons_succ]); go_simp); (try with_reducible rfl)); (try simp only [Act.put, List.getElem_toArray, List.getElem_cons_zero, List.getElem_cons_succ, List.setIfInBounds_toArray, List.set_cons_zero, List.set_cons_succ]))
        (refine wpAnyT_take (i := 10) (v := ?_) rfl (by kernel_rfl) (by kernel_rfl) (by kernel_rfl) (by kernel_rfl) (fun _ _ _ h => h) (Or.inl ⟨by rfl, ?_⟩) (by assumption) ?_; rotate_left; ((intro wS hSw; (try dsimp only at hSw); (try simp only [List.getElem_toArray, List.getElem_cons_zero, List.getElem_cons_succ]); go_simp); (try with_reducible rfl)); (try simp only [Act.put, List.getElem_toArray, List.getElem_cons_zero, List.getElem_cons_succ, List.setIfInBounds_toArray, List.set_cons_zero, List.set_cons_succ]))
        (refine wpAnyT_take (i := 11) (v := ?_) rfl (by kernel_rfl) (by kernel_rfl) (by kernel_rfl) (by kernel_rfl) (fun _ _ _ h => h) (Or.inl ⟨by rfl, ?_⟩) (by assumption) ?_; rotate_left; ((intro wS hSw; (try dsimp only at hSw); (try simp only [List.getElem_toArray, List.getElem_cons_zero, List.getElem_cons_succ]); go_simp); (try with_reducible rfl)); (try simp only [Act.put, List.getElem_toArray, List.getElem_cons_zero, List.getElem_cons_succ, List.setIfInBounds_toArray, List.set_cons_zero, List.set_cons_succ]))
        (refine wpAnyT_take (i := 12) (v := ?_) rfl (by kernel_rfl) (by kernel_rfl) (by kernel_rfl) (by kernel_rfl) (fun _ _ _ h => h) (Or.inl ⟨by rfl, ?_⟩) (by assumption) ?_; rotate_left; ((intro wS hSw; (try dsimp only at hSw); (try simp only [List.getElem_toArray, List.getElem_cons_zero, List.getElem_cons_succ]); go_simp); (try with_reducible rfl)); (try simp only [Act.put, List.getElem_toArray, List.getElem_cons_zero, List.getElem_cons_succ, List.setIfInBounds_toArray, List.set_cons_zero, List.set_cons_succ]))
        (refine wpAnyT_take (i := 13) (v := ?_) rfl (by kernel_rfl) (by kernel_rfl) (by kernel_rfl) (by kernel_rfl) (fun _ _ _ h => h) (Or.inl ⟨by rfl, ?_⟩) (by assumption) ?_; rotate_left; ((intro wS hSw; (try dsimp only at hSw); (try simp only [List.getElem_toArray, List.getElem_cons_zero, List.getElem_cons_succ]); go_simp); (try with_reducible rfl)); (try simp only [Act.put, List.getElem_toArray, List.getElem_cons_zero, List.getElem_cons_succ, List.setIfInBounds_toArray, List.set_cons_zero, List.set_cons_succ]))
        (refine wpAnyT_take (i := 14) (v := ?_) rfl (by kernel_rfl) (by kernel_rfl) (by kernel_rfl) (by kernel_rfl) (fun _ _ _ h => h) (Or.inl ⟨by rfl, ?_⟩) (by assumption) ?_; rotate_left; ((intro wS hSw; (try dsimp only at hSw); (try simp only [List.getElem_toArray, List.getElem_cons_zero, List.getElem_cons_succ]); go_simp); (try with_reducible rfl)); (try simp only [Act.put, List.getElem_toArray, List.getElem_cons_zero, List.getElem_cons_succ, List.setIfInBounds_toArray, List.set_cons_zero, List.set_cons_succ]))
        (refine wpAnyT_take (i := 15) (v := ?_) rfl (by kernel_rfl) (by kernel_rfl) (by kernel_rfl) (by kernel_rfl) (fun _ _ _ h => h) (Or.inl ⟨by rfl, ?_⟩) (by assumption) ?_; rotate_left; ((intro wS hSw; (try dsimp only at hSw); (try simp only [List.getElem_toArray, List.getElem_cons_zero, List.getElem_cons_succ]); go_simp); (try with_reducible rfl)); (try simp only [Act.put, List.getElem_toArray, List.getElem_cons_zero, List.getElem_cons_succ, List.setIfInBounds_toArray, List.set_cons_zero, List.set_cons_succ]))
        refine wpAnyT_all (rs := [16, 21, 22]) (by kernel_rfl) (by decide) (AllT.consF rfl rfl (fun K hK => ?_) (AllT.consS rfl (fun K hK => ?_) (AllT.consS rfl (fun K hK => ?_) AllT.nil)))
        · go_simp
          go_at_call 17
          refine (Try_idx _ _ g x (HI.out.ext (by (· repeat (first | (with_reducible assumption) | exact Ext.refl _ | refine Ext.alloc ?_ _ | refine Ext.drew ?_ | refine Ext.drewN ?_ _ | (apply Ext.snart; (with_reducible assumption)))))) (by omega) _ hs1 (-1) (by decide) _ hs2 _ _ _ (HL.out.ext (by (· repeat (first | (with_reducible assumption) | exact Ext.refl _ | refine Ext.alloc ?_ _ | refine Ext.drew ?_ | refine Ext.drewN ?_ _ | (apply Ext.snart; (with_reducible assumption)))))) hlen (by omega)).mono ?_
          rintro e w' ⟨ev', rfl, hev', hx'⟩
          rw [HZ.out] at hev' ⊢
          dsimp only at hev' ⊢
          obtain ⟨ea', ec', rfl, -, -⟩ := hev'.slice
          have hx0' : Ext wo w' := (show Ext wo _ by (· repeat (first | (with_reducible assumption) | exact Ext.refl _ | refine Ext.alloc ?_ _ | refine Ext.drew ?_ | refine Ext.drewN ?_ _ | (apply Ext.snart; (with_reducible assumption))))).trans hx'
          have hsx' : wo.heap.size + 0 ≤ w'.heap.size := by have h : (wo).heap.size ≤ w'.heap.size := hx'.size; (try simp only [heap_alloc_sz] at h); omega
          have hev' := hev'.upto.mono (S' := fun k => wo.heap.size + 0 ≤ k ∧ k < w'.heap.size) (fun k hk _ => ⟨by have h : (wo).heap.size ≤ k := hk.1; (try simp only [heap_alloc_sz] at h); omega, hk.2⟩)
          (refine hK.out _ _ ?_; clear hK K)
          (refine wpAnyT_any (i := 17) (v := ?_) rfl (by kernel_rfl) (by kernel_rfl) (by kernel_rfl) (by kernel_rfl) (fun _ _ _ h => h) (Or.inl ⟨by rfl, ?_⟩) ?_; rotate_left; ((intro wS hSw; (try simp only [List.getElem_toArray, List.getElem_cons_zero, List.getElem_cons_succ]); go_simp); (try with_reducible rfl)); (try simp only [Act.put, List.getElem_toArray, List.getElem_cons_zero, List.getElem_cons_succ, List.setIfInBounds_toArray, List.set_cons_zero, List.set_cons_succ]))
          (refine wpAnyT_any (i := 18) (v := ?_) rfl (by kernel_rfl) (by kernel_rfl) (by kernel_rfl) (by kernel_rfl) (fun _ _ _ h => h) (Or.inl ⟨by rfl, ?_⟩) ?_; rotate_left; ((intro wS hSw; (try simp only [List.getElem_toArray, List.getElem_cons_zero, List.getElem_cons_succ]); go_simp); (try with_reducible rfl)); (try simp only [Act.put, List.getElem_toArray, List.getElem_cons_zero, List.getElem_cons_succ, List.setIfInBounds_toArray, List.set_cons_zero, List.set_cons_succ]))
          (refine wpAnyT_any (i := 19) (v := ?_) rfl (by kernel_rfl) (by kernel_rfl) (by kernel_rfl) (by kernel_rfl) (fun _ _ _ h => h) (Or.inl ⟨by rfl, ?_⟩) ?_; rotate_left; ((intro wS hSw; (try simp only [List.getElem_toArray, List.getElem_cons_zero, List.getElem_cons_succ]); go_simp); (try with_reducible rfl)); (try simp only [Act.put, List.getElem_toArray, List.getElem_cons_zero, List.getElem_cons_succ, List.setIfInBounds_toArray, List.set_cons_zero, List.set_cons_succ]))
          (refine wpAnyT_any (i := 20) (v := ?_) rfl (by kernel_rfl) (by kernel_rfl) (by kernel_rfl) (by kernel_rfl) (fun _ _ _ h => h) (Or.inl ⟨by rfl, ?_⟩) ?_; rotate_left; ((intro wS hSw; (try simp only [List.getElem_toArray, List.getElem_cons_zero, List.getElem_cons_succ]); go_simp); (try with_reducible rfl)); (try simp only [Act.put, List.getElem_toArray, List.getElem_cons_zero, List.getElem_cons_succ, List.setIfInBounds_toArray, List.set_cons_zero, List.set_cons_succ]))
          refine wpAnyT_all (rs := [21, 22]) (by kernel_rfl) (by decide) (AllT.consS rfl (fun K hK => ?_) (AllT.consS rfl (fun K hK => ?_) AllT.nil))
          · go_simp
            (refine hK.out _ _ (keep3 (show Ext wo _ by (· repeat (first | (with_reducible assumption) | exact Ext.refl _ | refine Ext.alloc ?_ _ | refine Ext.drew ?_ | refine Ext.drewN ?_ _ | (apply Ext.snart; (with_reducible assumption))))) d1 d2 d5) (fun hS => ?_); clear hK K)
            refine wpAnyT_all (rs := [22]) (by kernel_rfl) (by decide) (AllT.consS rfl (fun K hK => ?_) AllT.nil)
            go_simp
            (refine hK.out _ _ (keep3 (show Ext wo _ by (· repeat (first | (with_reducible assumption) | exact Ext.refl _ | refine Ext.alloc ?_ _ | refine Ext.drew ?_ | refine Ext.drewN ?_ _ | (apply Ext.snart; (with_reducible assumption))))) d1 d2 d5) (fun hS => ?_); clear hK K)
            have hA : ((w'.alloc (.cells #[.int .i64 0, .int .i64 0, .int .i64 0, .bool false] 29)).alloc (.cells #[.string ⟨#[]⟩, .string ⟨#[]⟩, .int .i64 0, .slice none 0 0] 31)).heap[w'.heap.size]? = some (.cells #[.int .i64 0, .int .i64 0, .int .i64 0, .bool false] 29 (0, 0)) := alloc_two_a _ _ _ _
            have hB : ((w'.alloc (.cells #[.int .i64 0, .int .i64 0, .int .i64 0, .bool false] 29)).alloc (.cells #[.string ⟨#[]⟩, .string ⟨#[]⟩, .int .i64 0, .slice none 0 0] 31)).heap[(w'.heap.size + 1)]? = some (.cells #[.string ⟨#[]⟩, .string ⟨#[]⟩, .int .i64 0, .slice none 0 0] 31 (0, 0)) := alloc_two_b _ _ _ _
            have hxW : Ext wo ((w'.alloc (.cells #[.int .i64 0, .int .i64 0, .int .i64 0, .bool false] 29)).alloc (.cells #[.string ⟨#[]⟩, .string ⟨#[]⟩, .int .i64 0, .slice none 0 0] 31)) := by (· repeat (first | (with_reducible assumption) | exact Ext.refl _ | refine Ext.alloc ?_ _ | refine Ext.drew ?_ | refine Ext.drewN ?_ _ | (apply Ext.snart; (with_reducible assumption))))
            have hevW : RdS rE ((w'.alloc (.cells #[.int .i64 0, .int .i64 0, .int .i64 0, .bool false] 29)).alloc (.cells #[.string ⟨#[]⟩, .string ⟨#[]⟩, .int .i64 0, .slice none 0 0] 31)) (fun k => wo.heap.size ≤ k ∧ k ≠ w'.heap.size ∧ k ≠ (w'.heap.size + 1)) (.slice ea' bes.length ec') bes := (hev'.ext (show Ext w' _ by (· repeat (first | (with_reducible assumption) | exact Ext.refl _ | refine Ext.alloc ?_ _ | refine Ext.drew ?_ | refine Ext.drewN ?_ _ | (apply Ext.snart; (with_reducible assumption)))))).mono (fun k hk _ => by have h1 := hk.1; have h2 := hk.2; refine ⟨?_, ?_, ?_⟩ <;> omega)
            have hAB : ¬ w'.heap.size = (w'.heap.size + 1) := by omega
            have hgA : wo.heap.size ≤ w'.heap.size := by omega
            have hgB : wo.heap.size ≤ (w'.heap.size + 1) := by omega
            obtain ⟨W0, hW0⟩ : ∃ W0, W0 = (w'.alloc (.cells #[.int .i64 0, .int .i64 0, .int .i64 0, .bool false] 29)).alloc (.cells #[.string ⟨#[]⟩, .string ⟨#[]⟩, .int .i64 0, .slice none 0 0] 31) := ⟨_, rfl⟩
            rw [← hW0] at hA hB hxW hevW ⊢
            clear hW0
            have HA := hid hA
            have HB := hid hB
            have HEVW := hid hevW
            have HXW := hid hxW
            have yA0 : W0.cell? ⟨w'.heap.size, 0, none⟩ = some (.int .i64 0) := (cell_of_row _ _ 0 _ _ _ HA.out).trans rfl
            have xA0 := frozen_blk HA.out 0
            have yA1 : W0.cell? ⟨w'.heap.size, 1, none⟩ = some (.int .i64 0) := (cell_of_row _ _ 1 _ _ _ HA.out).trans rfl
            have xA1 := frozen_blk HA.out 1
            have yA2 : W0.cell? ⟨w'.heap.size, 2, none⟩ = some (.int .i64 0) := (cell_of_row _ _ 2 _ _ _ HA.out).trans rfl
            have xA2 := frozen_blk HA.out 2
            have yA3 : W0.cell? ⟨w'.heap.size, 3, none⟩ = some (.bool false) := (cell_of_row _ _ 3 _ _ _ HA.out).trans rfl
            have xA3 := frozen_blk HA.out 3
            have yB0 : W0.cell? ⟨(w'.heap.size + 1), 0, none⟩ = some (.string ⟨#[]⟩) := (cell_of_row _ _ 0 _ _ _ HB.out).trans rfl
            have xB0 := frozen_blk HB.out 0
            have yB1 : W0.cell? ⟨(w'.heap.size + 1), 1, none⟩ = some (.string ⟨#[]⟩) := (cell_of_row _ _ 1 _ _ _ HB.out).trans rfl
            have xB1 := frozen_blk HB.out 1
            have yB2 : W0.cell? ⟨(w'.heap.size + 1), 2, none⟩ = some (.int .i64 0) := (cell_of_row _ _ 2 _ _ _ HB.out).trans rfl
            have xB2 := frozen_blk HB.out 2
            have yB3 : W0.cell? ⟨(w'.heap.size + 1), 3, none⟩ = some (.slice none 0 0) := (cell_of_row _ _ 3 _ _ _ HB.out).trans rfl
            have xB3 := frozen_blk HB.out 3
            have hBA : ¬ (w'.heap.size + 1) = w'.heap.size := by omega
            clear hA hB hxW hevW hev' hx' hsx' hx0' d1 d2 d5
            refine wpAnyT_all (rs := [23]) (by kernel_rfl) (by decide) (AllT.consF rfl rfl (fun K hK => ?_) AllT.nil)
            go_simp
            (refine hK.out _ _ ?_; clear hK K)
            refine wpAnyT_all (rs := [24]) (by kernel_rfl) (by decide) (AllT.consF rfl rfl (fun K hK => ?_) AllT.nil)
            go_simp
            (refine hK.out _ _ ?_; clear hK K)
            refine wpAnyT_all (rs := [25]) (by kernel_rfl) (by decide) (AllT.consF rfl rfl (fun K hK => ?_) AllT.nil)
            go_simp
            (refine hK.out _ _ ?_; clear hK K)
            refine wpAnyT_done (by kernel_rfl) (NoPanic.normal ?_) _
            go_wp2_with fail
            go_meet
            obtain ⟨qA, qB⟩ := eight_cells (u0 := .int .i64 zf) (u1 := .int .i64 zp) (u2 := .int .i64 zc) (u3 := .bool zg) (v0 := .string bs) (v1 := .string bk) (v2 := .int .i64 bf) (v3 := .slice ea' bes.length ec') HA.out HB.out hAB
            exact ⟨_, _, _, rfl, rfl, rfl, hgB, hgA, ⟨(cell_of_row _ _ 0 _ _ _ qA).trans rfl, (cell_of_row _ _ 1 _ _ _ qA).trans rfl, (cell_of_row _ _ 2 _ _ _ qA).trans rfl, (cell_of_row _ _ 3 _ _ _ qA).trans rfl⟩, ⟨(cell_of_row _ _ 0 _ _ _ qB).trans rfl, (cell_of_row _ _ 1 _ _ _ qB).trans rfl, (cell_of_row _ _ 2 _ _ _ qB).trans rfl, (cell_of_row _ _ 3 _ _ _ qB).trans rfl⟩, (HEVW.out.kept (eight_keep (fun h => h.2.1 rfl) (fun h => h.2.2 rfl))).mono (fun k hk _ => hk.1), eight_ext HXW.out hgA hgB⟩
          · go_simp
            (refine hK.out _ _ (keep3 (show Ext wo _ by (· repeat (first | (with_reducible assumption) | exact Ext.refl _ | refine Ext.alloc ?_ _ | refine Ext.drew ?_ | refine Ext.drewN ?_ _ | (apply Ext.snart; (with_reducible assumption))))) d1 d2 d5) (fun hS => ?_); clear hK K)
            refine wpAnyT_all (rs := [21]) (by kernel_rfl) (by decide) (AllT.consS rfl (fun K hK => ?_) AllT.nil)
            go_simp
            (refine hK.out _ _ (keep3 (show Ext wo _ by (· repeat (first | (with_reducible assumption) | exact Ext.refl _ | refine Ext.alloc ?_ _ | refine Ext.drew ?_ | refine Ext.drewN ?_ _ | (apply Ext.snart; (with_reducible assumption))))) d1 d2 d5) (fun hS => ?_); clear hK K)
            have hA : ((w'.alloc (.cells #[.string ⟨#[]⟩, .string ⟨#[]⟩, .int .i64 0, .slice none 0 0] 31)).alloc (.cells #[.int .i64 0, .int .i64 0, .int .i64 0, .bool false] 29)).heap[(w'.heap.size + 1)]? = some (.cells #[.int .i64 0, .int .i64 0, .int .i64 0, .bool false] 29 (0, 0)) := alloc_two_b _ _ _ _
            have hB : ((w'.alloc (.cells #[.string ⟨#[]⟩, .string ⟨#[]⟩, .int .i64 0, .slice none 0 0] 31)).alloc (.cells #[.int .i64 0, .int .i64 0, .int .i64 0, .bool false] 29)).heap[w'.heap.size]? = some (.cells #[.string ⟨#[]⟩, .string ⟨#[]⟩, .int .i64 0, .slice none 0 0] 31 (0, 0)) := alloc_two_a _ _ _ _
            have hxW : Ext wo ((w'.alloc (.cells #[.string ⟨#[]⟩, .string ⟨#[]⟩, .int .i64 0, .slice none 0 0] 31)).alloc (.cells #[.int .i64 0, .int .i64 0, .int .i64 0, .bool false] 29)) := by (· repeat (first | (with_reducible assumption) | exact Ext.refl _ | refine Ext.alloc ?_ _ | refine Ext.drew ?_ | refine Ext.drewN ?_ _ | (apply Ext.snart; (with_reducible assumption))))
            have hevW : RdS rE ((w'.alloc (.cells #[.string ⟨#[]⟩, .string ⟨#[]⟩, .int .i64 0, .slice none 0 0] 31)).alloc (.cells #[.int .i64 0, .int .i64 0, .int .i64 0, .bool false] 29)) (fun k => wo.heap.size ≤ k ∧ k ≠ (w'.heap.size + 1) ∧ k ≠ w'.heap.size) (.slice ea' bes.length ec') bes := (hev'.ext (show Ext w' _ by (· repeat (first | (with_reducible assumption) | exact Ext.refl _ | refine Ext.alloc ?_ _ | refine Ext.drew ?_ | refine Ext.drewN ?_ _ | (apply Ext.snart; (with_reducible assumption)))))).mono (fun k hk _ => by have h1 := hk.1; have h2 := hk.2; refine ⟨?_, ?_, ?_⟩ <;> omega)
            have hAB : ¬ (w'.heap.size + 1) = w'.heap.size := by omega
            have hgA : wo.heap.size ≤ (w'.heap.size + 1) := by omega
            have hgB : wo.heap.size ≤ w'.heap.size := by omega
            obtain ⟨W0, hW0⟩ : ∃ W0, W0 = (w'.alloc (.cells #[.string ⟨#[]⟩, .string ⟨#[]⟩, .int .i64 0, .slice none 0 0] 31)).alloc (.cells #[.int .i64 0, .int .i64 0, .int .i64 0, .bool false] 29) := ⟨_, rfl⟩
            rw [← hW0] at hA hB hxW hevW ⊢
            clear hW0
            have HA := hid hA
            have HB := hid hB
            have HEVW := hid hevW
            have HXW := hid hxW
            have yA0 : W0.cell? ⟨(w'.heap.size + 1), 0, none⟩ = some (.int .i64 0) := (cell_of_row _ _ 0 _ _ _ HA.out).trans rfl
            have xA0 := frozen_blk HA.out 0
            have yA1 : W0.cell? ⟨(w'.heap.size + 1), 1, none⟩ = some (.int .i64 0) := (cell_of_row _ _ 1 _ _ _ HA.out).trans rfl
            have xA1 := frozen_blk HA.out 1
            have yA2 : W0.cell? ⟨(w'.heap.size + 1), 2, none⟩ = some (.int .i64 0) := (cell_of_row _ _ 2 _ _ _ HA.out).trans rfl
            have xA2 := frozen_blk HA.out 2
            have yA3 : W0.cell? ⟨(w'.heap.size + 1), 3, none⟩ = some (.bool false) := (cell_of_row _ _ 3 _ _ _ HA.out).trans rfl
            have xA3 := frozen_blk HA.out 3
            have yB0 : W0.cell? ⟨w'.heap.size, 0, none⟩ = some (.string ⟨#[]⟩) := (cell_of_row _ _ 0 _ _ _ HB.out).trans rfl
            have xB0 := frozen_blk HB.out 0
            have yB1 : W0.cell? ⟨w'.heap.size, 1, none⟩ = some (.string ⟨#[]⟩) := (cell_of_row _ _ 1 _ _ _ HB.out).trans rfl
            have xB1 := frozen_blk HB.out 1
            have yB2 : W0.cell? ⟨w'.heap.size, 2, none⟩ = some (.int .i64 0) := (cell_of_row _ _ 2 _ _ _ HB.out).trans rfl
            have xB2 := frozen_blk HB.out 2
            have yB3 : W0.cell? ⟨w'.heap.size, 3, none⟩ = some (.slice none 0 0) := (cell_of_row _ _ 3 _ _ _ HB.out).trans rfl
            have xB3 := frozen_blk HB.out 3
            have hBA : ¬ w'.heap.size = (w'.heap.size + 1) := by omega
            clear hA hB hxW hevW hev' hx' hsx' hx0' d1 d2 d5
            refine wpAnyT_all (rs := [23]) (by kernel_rfl) (by decide) (AllT.consF rfl rfl (fun K hK => ?_) AllT.nil)
            go_simp
            (refine hK.out _ _ ?_; clear hK K)
            refine wpAnyT_all (rs := [24]) (by kernel_rfl) (by decide) (AllT.consF rfl rfl (fun K hK => ?_) AllT.nil)
            go_simp
            (refine hK.out _ _ ?_; clear hK K)
            refine wpAnyT_all (rs := [25]) (by kernel_rfl) (by decide) (AllT.consF rfl rfl (fun K hK => ?_) AllT.nil)
            go_simp
            (refine hK.out _ _ ?_; clear hK K)
            refine wpAnyT_done (by kernel_rfl) (NoPanic.normal ?_) _
            go_wp2_with fail
            go_meet
            obtain ⟨qA, qB⟩ := eight_cells (u0 := .int .i64 zf) (u1 := .int .i64 zp) (u2 := .int .i64 zc) (u3 := .bool zg) (v0 := .string bs) (v1 := .string bk) (v2 := .int .i64 bf) (v3 := .slice ea' bes.length ec') HA.out HB.out hAB
            exact ⟨_, _, _, rfl, rfl, rfl, hgB, hgA, ⟨(cell_of_row _ _ 0 _ _ _ qA).trans rfl, (cell_of_row _ _ 1 _ _ _ qA).trans rfl, (cell_of_row _ _ 2 _ _ _ qA).trans rfl, (cell_of_row _ _ 3 _ _ _ qA).trans rfl⟩, ⟨(cell_of_row _ _ 0 _ _ _ qB).trans rfl, (cell_of_row _ _ 1 _ _ _ qB).trans rfl, (cell_of_row _ _ 2 _ _ _ qB).trans rfl, (cell_of_row _ _ 3 _ _ _ qB).trans rfl⟩, (HEVW.out.kept (eight_keep (fun h => h.2.1 rfl) (fun h => h.2.2 rfl))).mono (fun k hk _ => hk.1), eight_ext HXW.out hgA hgB⟩
        · go_simp
          (refine hK.out _ _ (keep3 (show Ext wo _ by (· repeat (first | (with_reducible assumption) | exact Ext.refl _ | refine Ext.alloc ?_ _ | refine Ext.drew ?_ | refine Ext.drewN ?_ _ | (apply Ext.snart; (with_reducible assumption))))) d1 d2 d5) (fun hS => ?_); clear hK K)
          refine wpAnyT_all (rs := [16, 22]) (by kernel_rfl) (by decide) (AllT.consF rfl rfl (fun K hK => ?_) (AllT.consS rfl (fun K hK => ?_) AllT.nil))
          · go_simp
            go_at_call 17
            refine (Try_idx _ _ g x (HI.out.ext (by (· repeat (first | (with_reducible assumption) | exact Ext.refl _ | refine Ext.alloc ?_ _ | refine Ext.drew ?_ | refine Ext.drewN ?_ _ | (apply Ext.snart; (with_reducible assumption)))))) (by omega) _ hs1 (-1) (by decide) _ hs2 _ _ _ (HL.out.ext (by (· repeat (first | (with_reducible assumption) | exact Ext.refl _ | refine Ext.alloc ?_ _ | refine Ext.drew ?_ | refine Ext.drewN ?_ _ | (apply Ext.snart; (with_reducible assumption)))))) hlen (by omega)).mono ?_
            rintro e w' ⟨ev', rfl, hev', hx'⟩
            rw [HZ.out] at hev' ⊢
            dsimp only at hev' ⊢
            obtain ⟨ea', ec', rfl, -, -⟩ := hev'.slice
            have hx0' : Ext wo w' := (show Ext wo _ by (· repeat (first | (with_reducible assumption) | exact Ext.refl _ | refine Ext.alloc ?_ _ | refine Ext.drew ?_ | refine Ext.drewN ?_ _ | (apply Ext.snart; (with_reducible assumption))))).trans hx'
            have hsx' : wo.heap.size + 1 ≤ w'.heap.size := by have h : (wo.alloc (.cells #[.int .i64 0, .int .i64 0, .int .i64 0, .bool false] 29)).heap.size ≤ w'.heap.size := hx'.size; (try simp only [heap_alloc_sz] at h); omega
            have hev' := hev'.upto.mono (S' := fun k => wo.heap.size + 1 ≤ k ∧ k < w'.heap.size) (fun k hk _ => ⟨by have h : (wo.alloc (.cells #[.int .i64 0, .int .i64 0, .int .i64 0, .bool false] 29)).heap.size ≤ k := hk.1; (try simp only [heap_alloc_sz] at h); omega, hk.2⟩)
            (refine hK.out _ _ ?_; clear hK K)
            (refine wpAnyT_any (i := 17) (v := ?_) rfl (by kernel_rfl) (by kernel_rfl) (by kernel_rfl) (by kernel_rfl) (fun _ _ _ h => h) (Or.inl ⟨by rfl, ?_⟩) ?_; rotate_left; ((intro wS hSw; (try simp only [List.getElem_toArray, List.getElem_cons_zero, List.getElem_cons_succ]); go_simp); (try with_reducible rfl)); (try simp only [Act.put, List.getElem_toArray, List.getElem_cons_zero, List.getElem_cons_succ, List.setIfInBounds_toArray, List.set_cons_zero, List.set_cons_succ]))
            (refine wpAnyT_any (i := 18) (v := ?_) rfl (by kernel_rfl) (by kernel_rfl) (by kernel_rfl) (by kernel_rfl) (fun _ _ _ h => h) (Or.inl ⟨by rfl, ?_⟩) ?_; rotate_left; ((intro wS hSw; (try simp only [List.getElem_toArray, List.getElem_cons_zero, List.getElem_cons_succ]); go_simp); (try with_reducible rfl)); (try simp only [Act.put, List.getElem_toArray, List.getElem_cons_zero, List.getElem_cons_succ, List.setIfInBounds_toArray, List.set_cons_zero, List.set_cons_succ]))
            (refine wpAnyT_any (i := 19) (v := ?_) rfl (by kernel_rfl) (by kernel_rfl) (by kernel_rfl) (by kernel_rfl) (fun _ _ _ h => h) (Or.inl ⟨by rfl, ?_⟩) ?_; rotate_left; ((intro wS hSw; (try simp only [List.getElem_toArray, List.getElem_cons_zero, List.getElem_cons_succ]); go_simp); (try with_reducible rfl)); (try simp only [Act.put, List.getElem_toArray, List.getElem_cons_zero, List.getElem_cons_succ, List.setIfInBounds_toArray, List.set_cons_zero, List.set_cons_succ]))
            (refine wpAnyT_any (i := 20) (v := ?_) rfl (by kernel_rfl) (by kernel_rfl) (by kernel_rfl) (by kernel_rfl) (fun _ _ _ h => h) (Or.inl ⟨by rfl, ?_⟩) ?_; rotate_left; ((intro wS hSw; (try simp only [List.getElem_toArray, List.getElem_cons_zero, List.getElem_cons_succ]); go_simp); (try with_reducible rfl)); (try simp only [Act.put, List.getElem_toArray, List.getElem_cons_zero, List.getElem_cons_succ, List.setIfInBounds_toArray, List.set_cons_zero, List.set_cons_succ]))
            refine wpAnyT_all (rs := [22]) (by kernel_rfl) (by decide) (AllT.consS rfl (fun K hK => ?_) AllT.nil)
            go_simp
            (refine hK.out _ _ (keep3 (show Ext wo _ by (· repeat (first | (with_reducible assumption) | exact Ext.refl _ | refine Ext.alloc ?_ _ | refine Ext.drew ?_ | refine Ext.drewN ?_ _ | (apply Ext.snart; (with_reducible assumption))))) d1 d2 d5) (fun hS => ?_); clear hK K)
            have hA : (w'.alloc (.cells #[.string ⟨#[]⟩, .string ⟨#[]⟩, .int .i64 0, .slice none 0 0] 31)).heap[wo.heap.size]? = some (.cells #[.int .i64 0, .int .i64 0, .int .i64 0, .bool false] 29 (0, 0)) := (Below.block ((Ext.refl w').alloc _) _ (by omega)).trans ((Below.block hx' _ (by simp)).trans (heap_alloc_new wo _))
            have hB : (w'.alloc (.cells #[.string ⟨#[]⟩, .string ⟨#[]⟩, .int .i64 0, .slice none 0 0] 31)).heap[w'.heap.size]? = some (.cells #[.string ⟨#[]⟩, .string ⟨#[]⟩, .int .i64 0, .slice none 0 0] 31 (0, 0)) := heap_alloc_new _ _
            have hxW : Ext wo (w'.alloc (.cells #[.string ⟨#[]⟩, .string ⟨#[]⟩, .int .i64 0, .slice none 0 0] 31)) := by (· repeat (first | (with_reducible assumption) | exact Ext.refl _ | refine Ext.alloc ?_ _ | refine Ext.drew ?_ | refine Ext.drewN ?_ _ | (apply Ext.snart; (with_reducible assumption))))
            have hevW : RdS rE (w'.alloc (.cells #[.string ⟨#[]⟩, .string ⟨#[]⟩, .int .i64 0, .slice none 0 0] 31)) (fun k => wo.heap.size ≤ k ∧ k ≠ wo.heap.size ∧ k ≠ w'.heap.size) (.slice ea' bes.length ec') bes := (hev'.ext (show Ext w' _ by (· repeat (first | (with_reducible assumption) | exact Ext.refl _ | refine Ext.alloc ?_ _ | refine Ext.drew ?_ | refine Ext.drewN ?_ _ | (apply Ext.snart; (with_reducible assumption)))))).mono (fun k hk _ => by have h1 := hk.1; have h2 := hk.2; refine ⟨?_, ?_, ?_⟩ <;> omega)
            have hAB : ¬ wo.heap.size = w'.heap.size := by omega
            have hgA : wo.heap.size ≤ wo.heap.size := by omega
            have hgB : wo.heap.size ≤ w'.heap.size := by omega
            obtain ⟨W0, hW0⟩ : ∃ W0, W0 = w'.alloc (.cells #[.string ⟨#[]⟩, .string ⟨#[]⟩, .int .i64 0, .slice none 0 0] 31) := ⟨_, rfl⟩
            rw [← hW0] at hA hB hxW hevW ⊢
            clear hW0
            have HA := hid hA
            have HB := hid hB
            have HEVW := hid hevW
            have HXW := hid hxW
            have yA0 : W0.cell? ⟨wo.heap.size, 0, none⟩ = some (.int .i64 0) := (cell_of_row _ _ 0 _ _ _ HA.out).trans rfl
            have xA0 := frozen_blk HA.out 0
            have yA1 : W0.cell? ⟨wo.heap.size, 1, none⟩ = some (.int .i64 0) := (cell_of_row _ _ 1 _ _ _ HA.out).trans rfl
            have xA1 := frozen_blk HA.out 1
            have yA2 : W0.cell? ⟨wo.heap.size, 2, none⟩ = some (.int .i64 0) := (cell_of_row _ _ 2 _ _ _ HA.out).trans rfl
            have xA2 := frozen_blk HA.out 2
            have yA3 : W0.cell? ⟨wo.heap.size, 3, none⟩ = some (.bool false) := (cell_of_row _ _ 3 _ _ _ HA.out).trans rfl
            have xA3 := frozen_blk HA.out 3
            have yB0 : W0.cell? ⟨w'.heap.size, 0, none⟩ = some (.string ⟨#[]⟩) := (cell_of_row _ _ 0 _ _ _ HB.out).trans rfl
            have xB0 := frozen_blk HB.out 0
            have yB1 : W0.cell? ⟨w'.heap.size, 1, none⟩ = some (.string ⟨#[]⟩) := (cell_of_row _ _ 1 _ _ _ HB.out).trans rfl
            have xB1 := frozen_blk HB.out 1
            have yB2 : W0.cell? ⟨w'.heap.size, 2, none⟩ = some (.int .i64 0) := (cell_of_row _ _ 2 _ _ _ HB.out).trans rfl
            have xB2 := frozen_blk HB.out 2
            have yB3 : W0.cell? ⟨w'.heap.size, 3, none⟩ = some (.slice none 0 0) := (cell_of_row _ _ 3 _ _ _ HB.out).trans rfl
            have xB3 := frozen_blk HB.out 3
            have hBA : ¬ w'.heap.size = wo.heap.size := by omega
            clear hA hB hxW hevW hev' hx' hsx' hx0' d1 d2 d5
            refine wpAnyT_all (rs := [23]) (by kernel_rfl) (by decide) (AllT.consF rfl rfl (fun K hK => ?_) AllT.nil)
            go_simp
            (refine hK.out _ _ ?_; clear hK K)
            refine wpAnyT_all (rs := [24]) (by kernel_rfl) (by decide) (AllT.consF rfl rfl (fun K hK => ?_) AllT.nil)
            go_simp
            (refine hK.out _ _ ?_; clear hK K)
            refine wpAnyT_all (rs := [25]) (by kernel_rfl) (by decide) (AllT.consF rfl rfl (fun K hK => ?_) AllT.nil)
            go_simp
            (refine hK.out _ _ ?_; clear hK K)
            refine wpAnyT_done (by kernel_rfl) (NoPanic.normal ?_) _
            go_wp2_with fail
            go_meet
            obtain ⟨qA, qB⟩ := eight_cells (u0 := .int .i64 zf) (u1 := .int .i64 zp) (u2 := .int .i64 zc) (u3 := .bool zg) (v0 := .string bs) (v1 := .string bk) (v2 := .int .i64 bf) (v3 := .slice ea' bes.length ec') HA.out HB.out hAB
            exact ⟨_, _, _, rfl, rfl, rfl, hgB, hgA, ⟨(cell_of_row _ _ 0 _ _ _ qA).trans rfl, (cell_of_row _ _ 1 _ _ _ qA).trans rfl, (cell_of_row _ _ 2 _ _ _ qA).trans rfl, (cell_of_row _ _ 3 _ _ _ qA).trans rfl⟩, ⟨(cell_of_row _ _ 0 _ _ _ qB).trans rfl, (cell_of_row _ _ 1 _ _ _ qB).trans rfl, (cell_of_row _ _ 2 _ _ _ qB).trans rfl, (cell_of_row _ _ 3 _ _ _ qB).trans rfl⟩, (HEVW.out.kept (eight_keep (fun h => h.2.1 rfl) (fun h => h.2.2 rfl))).mono (fun k hk _ => hk.1), eight_ext HXW.out hgA hgB⟩
          · go_simp
            (refine hK.out _ _ (keep3 (show Ext wo _ by (· repeat (first | (with_reducible assumption) | exact Ext.refl _ | refine Ext.alloc ?_ _ | refine Ext.drew ?_ | refine Ext.drewN ?_ _ | (apply Ext.snart; (with_reducible assumption))))) d1 d2 d5) (fun hS => ?_); clear hK K)
            refine wpAnyT_all (rs := [16]) (by kernel_rfl) (by decide) (AllT.consF rfl rfl (fun K hK => ?_) AllT.nil)
            go_simp
            go_at_call 17
            refine (Try_idx _ _ g x (HI.out.ext (by (· repeat (first | (with_reducible assumption) | exact Ext.refl _ | refine Ext.alloc ?_ _ | refine Ext.drew ?_ | refine Ext.drewN ?_ _ | (apply Ext.snart; (with_reducible assumption)))))) (by omega) _ hs1 (-1) (by decide) _ hs2 _ _ _ (HL.out.ext (by (· repeat (first | (with_reducible assumption) | exact Ext.refl _ | refine Ext.alloc ?_ _ | refine Ext.drew ?_ | refine Ext.drewN ?_ _ | (apply Ext.snart; (with_reducible assumption)))))) hlen (by omega)).mono ?_
            rintro e w' ⟨ev', rfl, hev', hx'⟩
            rw [HZ.out] at hev' ⊢
            dsimp only at hev' ⊢
            obtain ⟨ea', ec', rfl, -, -⟩ := hev'.slice
            have hx0' : Ext wo w' := (show Ext wo _ by (· repeat (first | (with_reducible assumption) | exact Ext.refl _ | refine Ext.alloc ?_ _ | refine Ext.drew ?_ | refine Ext.drewN ?_ _ | (apply Ext.snart; (with_reducible assumption))))).trans hx'
            have hsx' : wo.heap.size + 2 ≤ w'.heap.size := by have h : ((wo.alloc (.cells #[.int .i64 0, .int .i64 0, .int .i64 0, .bool false] 29)).alloc (.cells #[.string ⟨#[]⟩, .string ⟨#[]⟩, .int .i64 0, .slice none 0 0] 31)).heap.size ≤ w'.heap.size := hx'.size; (try simp only [heap_alloc_sz] at h); omega
            have hev' := hev'.upto.mono (S' := fun k => wo.heap.size + 2 ≤ k ∧ k < w'.heap.size) (fun k hk _ => ⟨by have h : ((wo.alloc (.cells #[.int .i64 0, .int .i64 0, .int .i64 0, .bool false] 29)).alloc (.cells #[.string ⟨#[]⟩, .string ⟨#[]⟩, .int .i64 0, .slice none 0 0] 31)).heap.size ≤ k := hk.1; (try simp only [heap_alloc_sz] at h); omega, hk.2⟩)
            (refine hK.out _ _ ?_; clear hK K)
            (refine wpAnyT_any (i := 17) (v := ?_) rfl (by kernel_rfl) (by kernel_rfl) (by kernel_rfl) (by kernel_rfl) (fun _ _ _ h => h) (Or.inl ⟨by rfl, ?_⟩) ?_; rotate_left; ((intro wS hSw; (try simp only [List.getElem_toArray, List.getElem_cons_zero, List.getElem_cons_succ]); go_simp); (try with_reducible rfl)); (try simp only [Act.put, List.getElem_toArray, List.getElem_cons_zero, List.getElem_cons_succ, List.setIfInBounds_toArray, List.set_cons_zero, List.set_cons_succ]))
            (refine wpAnyT_any (i := 18) (v := ?_) rfl (by kernel_rfl) (by kernel_rfl) (by kernel_rfl) (by kernel_rfl) (fun _ _ _ h => h) (Or.inl ⟨by rfl, ?_⟩) ?_; rotate_left; ((intro wS hSw; (try simp only [List.getElem_toArray, List.getElem_cons_zero, List.getElem_cons_succ]); go_simp); (try with_reducible rfl)); (try simp only [Act.put, List.getElem_toArray, List.getElem_cons_zero, List.getElem_cons_succ, List.setIfInBounds_toArray, List.set_cons_zero, List.set_cons_succ]))
            (refine wpAnyT_any (i := 19) (v := ?_) rfl (by kernel_rfl) (by kernel_rfl) (by kernel_rfl) (by kernel_rfl) (fun _ _ _ h => h) (Or.inl ⟨by rfl, ?_⟩) ?_; rotate_left; ((intro wS hSw; (try simp only [List.getElem_toArray, List.getElem_cons_zero, List.getElem_cons_succ]); go_simp); (try with_reducible rfl)); (try simp only [Act.put, List.getElem_toArray, List.getElem_cons_zero, List.getElem_cons_succ, List.setIfInBounds_toArray, List.set_cons_zero, List.set_cons_succ]))
            (refine wpAnyT_any (i := 20) (v := ?_) rfl (by kernel_rfl) (by kernel_rfl) (by kernel_rfl) (by kernel_rfl) (fun _ _ _ h => h) (Or.inl ⟨by rfl, ?_⟩) ?_; rotate_left; ((intro wS hSw; (try simp only [List.getElem_toArray, List.getElem_cons_zero, List.getElem_cons_succ]); go_simp); (try with_reducible rfl)); (try simp only [Act.put, List.getElem_toArray, List.getElem_cons_zero, List.getElem_cons_succ, List.setIfInBounds_toArray, List.set_cons_zero, List.set_cons_succ]))
            have hA : (w').heap[wo.heap.size]? = some (.cells #[.int .i64 0, .int .i64 0, .int .i64 0, .bool false] 29 (0, 0)) := (Below.block hx' _ (by simp; omega)).trans (alloc_two_a wo _ _ _)
            have hB : (w').heap[(wo.heap.size + 1)]? = some (.cells #[.string ⟨#[]⟩, .string ⟨#[]⟩, .int .i64 0, .slice none 0 0] 31 (0, 0)) := (Below.block hx' _ (by simp)).trans (alloc_two_b wo _ _ _)
            have hxW : Ext wo (w') := hx0'
            have hevW : RdS rE (w') (fun k => wo.heap.size ≤ k ∧ k ≠ wo.heap.size ∧ k ≠ (wo.heap.size + 1)) (.slice ea' bes.length ec') bes := (hev'.ext (show Ext w' _ by (· repeat (first | (with_reducible assumption) | exact Ext.refl _ | refine Ext.alloc ?_ _ | refine Ext.drew ?_ | refine Ext.drewN ?_ _ | (apply Ext.snart; (with_reducible assumption)))))).mono (fun k hk _ => by have h1 := hk.1; have h2 := hk.2; refine ⟨?_, ?_, ?_⟩ <;> omega)
            have hAB : ¬ wo.heap.size = (wo.heap.size + 1) := by omega
            have hgA : wo.heap.size ≤ wo.heap.size := by omega
            have hgB : wo.heap.size ≤ (wo.heap.size + 1) := by omega
            obtain ⟨W0, rfl⟩ : ∃ W0 : World, W0 = w' := ⟨_, rfl⟩
            have HA := hid hA
            have HB := hid hB
            have HEVW := hid hevW
            have HXW := hid hxW
            have yA0 : W0.cell? ⟨wo.heap.size, 0, none⟩ = some (.int .i64 0) := (cell_of_row _ _ 0 _ _ _ HA.out).trans rfl
            have xA0 := frozen_blk HA.out 0
            have yA1 : W0.cell? ⟨wo.heap.size, 1, none⟩ = some (.int .i64 0) := (cell_of_row _ _ 1 _ _ _ HA.out).trans rfl
            have xA1 := frozen_blk HA.out 1
            have yA2 : W0.cell? ⟨wo.heap.size, 2, none⟩ = some (.int .i64 0) := (cell_of_row _ _ 2 _ _ _ HA.out).trans rfl
            have xA2 := frozen_blk HA.out 2
            have yA3 : W0.cell? ⟨wo.heap.size, 3, none⟩ = some (.bool false) := (cell_of_row _ _ 3 _ _ _ HA.out).trans rfl
            have xA3 := frozen_blk HA.out 3
            have yB0 : W0.cell? ⟨(wo.heap.size + 1), 0, none⟩ = some (.string ⟨#[]⟩) := (cell_of_row _ _ 0 _ _ _ HB.out).trans rfl
            have xB0 := frozen_blk HB.out 0
            have yB1 : W0.cell? ⟨(wo.heap.size + 1), 1, none⟩ = some (.string ⟨#[]⟩) := (cell_of_row _ _ 1 _ _ _ HB.out).trans rfl
            have xB1 := frozen_blk HB.out 1
            have yB2 : W0.cell? ⟨(wo.heap.size + 1), 2, none⟩ = some (.int .i64 0) := (cell_of_row _ _ 2 _ _ _ HB.out).trans rfl
            have xB2 := frozen_blk HB.out 2
            have yB3 : W0.cell? ⟨(wo.heap.size + 1), 3, none⟩ = some (.slice none 0 0) := (cell_of_row _ _ 3 _ _ _ HB.out).trans rfl
            have xB3 := frozen_blk HB.out 3
            have hBA : ¬ (wo.heap.size + 1) = wo.heap.size := by omega
            clear hA hB hxW hevW hev' hx' hsx' hx0' d1 d2 d5
            refine wpAnyT_all (rs := [23]) (by kernel_rfl) (by decide) (AllT.consF rfl rfl (fun K hK => ?_) AllT.nil)
            go_simp
            (refine hK.out _ _ ?_; clear hK K)
            refine wpAnyT_all (rs := [24]) (by kernel_rfl) (by decide) (AllT.consF rfl rfl (fun K hK => ?_) AllT.nil)
            go_simp
            (refine hK.out _ _ ?_; clear hK K)
            refine wpAnyT_all (rs := [25]) (by kernel_rfl) (by decide) (AllT.consF rfl rfl (fun K hK => ?_) AllT.nil)
            go_simp
            (refine hK.out _ _ ?_; clear hK K)
            refine wpAnyT_done (by kernel_rfl) (NoPanic.normal ?_) _
            go_wp2_with fail
            go_meet
            obtain ⟨qA, qB⟩ := eight_cells (u0 := .int .i64 zf) (u1 := .int .i64 zp) (u2 := .int .i64 zc) (u3 := .bool zg) (v0 := .string bs) (v1 := .string bk) (v2 := .int .i64 bf) (v3 := .slice ea' bes.length ec') HA.out HB.out hAB
            exact ⟨_, _, _, rfl, rfl, rfl, hgB, hgA, ⟨(cell_of_row _ _ 0 _ _ _ qA).trans rfl, (cell_of_row _ _ 1 _ _ _ qA).trans rfl, (cell_of_row _ _ 2 _ _ _ qA).trans rfl, (cell_of_row _ _ 3 _ _ _ qA).trans rfl⟩, ⟨(cell_of_row _ _ 0 _ _ _ qB).trans rfl, (cell_of_row _ _ 1 _ _ _ qB).trans rfl, (cell_of_row _ _ 2 _ _ _ qB).trans rfl, (cell_of_row _ _ 3 _ _ _ qB).trans rfl⟩, (HEVW.out.kept (eight_keep (fun h => h.2.1 rfl) (fun h => h.2.2 rfl))).mono (fun k hk _ => hk.1), eight_ext HXW.out hgA hgB⟩
        · go_simp
          (refine hK.out _ _ (keep3 (show Ext wo _ by (· repeat (first | (with_reducible assumption) | exact Ext.refl _ | refine Ext.alloc ?_ _ | refine Ext.drew ?_ | refine Ext.drewN ?_ _ | (apply Ext.snart; (with_reducible assumption))))) d1 d2 d5) (fun hS => ?_); clear hK K)
          refine wpAnyT_all (rs := [16, 21]) (by kernel_rfl) (by decide) (AllT.consF rfl rfl (fun K hK => ?_) (AllT.consS rfl (fun K hK => ?_) AllT.nil))
          · go_simp
            go_at_call 17
            refine (Try_idx _ _ g x (HI.out.ext (by (· repeat (first | (with_reducible assumption) | exact Ext.refl _ | refine Ext.alloc ?_ _ | refine Ext.drew ?_ | refine Ext.drewN ?_ _ | (apply Ext.snart; (with_reducible assumption)))))) (by omega) _ hs1 (-1) (by decide) _ hs2 _ _ _ (HL.out.ext (by (· repeat (first | (with_reducible assumption) | exact Ext.refl _ | refine Ext.alloc ?_ _ | refine Ext.drew ?_ | refine Ext.drewN ?_ _ | (apply Ext.snart; (with_reducible assumption)))))) hlen (by omega)).mono ?_
            rintro e w' ⟨ev', rfl, hev', hx'⟩
            rw [HZ.out] at hev' ⊢
            dsimp only at hev' ⊢
            obtain ⟨ea', ec', rfl, -, -⟩ := hev'.slice
            have hx0' : Ext wo w' := (show Ext wo _ by (· repeat (first | (with_reducible assumption) | exact Ext.refl _ | refine Ext.alloc ?_ _ | refine Ext.drew ?_ | refine Ext.drewN ?_ _ | (apply Ext.snart; (with_reducible assumption))))).trans hx'
            have hsx' : wo.heap.size + 1 ≤ w'.heap.size := by have h : (wo.alloc (.cells #[.string ⟨#[]⟩, .string ⟨#[]⟩, .int .i64 0, .slice none 0 0] 31)).heap.size ≤ w'.heap.size := hx'.size; (try simp only [heap_alloc_sz] at h); omega
            have hev' := hev'.upto.mono (S' := fun k => wo.heap.size + 1 ≤ k ∧ k < w'.heap.size) (fun k hk _ => ⟨by have h : (wo.alloc (.cells #[.string ⟨#[]⟩, .string ⟨#[]⟩, .int .i64 0, .slice none 0 0] 31)).heap.size ≤ k := hk.1; (try simp only [heap_alloc_sz] at h); omega, hk.2⟩)
            (refine hK.out _ _ ?_; clear hK K)
            (refine wpAnyT_any (i := 17) (v := ?_) rfl (by kernel_rfl) (by kernel_rfl) (by kernel_rfl) (by kernel_rfl) (fun _ _ _ h => h) (Or.inl ⟨by rfl, ?_⟩) ?_; rotate_left; ((intro wS hSw; (try simp only [List.getElem_toArray, List.getElem_cons_zero, List.getElem_cons_succ]); go_simp); (try with_reducible rfl)); (try simp only [Act.put, List.getElem_toArray, List.getElem_cons_zero, List.getElem_cons_succ, List.setIfInBounds_toArray, List.set_cons_zero, List.set_cons_succ]))
            (refine wpAnyT_any (i := 18) (v := ?_) rfl (by kernel_rfl) (by kernel_rfl) (by kernel_rfl) (by kernel_rfl) (fun _ _ _ h => h) (Or.inl ⟨by rfl, ?_⟩) ?_; rotate_left; ((intro wS hSw; (try simp only [List.getElem_toArray, List.getElem_cons_zero, List.getElem_cons_succ]); go_simp); (try with_reducible rfl)); (try simp only [Act.put, List.getElem_toArray, List.getElem_cons_zero, List.getElem_cons_succ, List.setIfInBounds_toArray, List.set_cons_zero, List.set_cons_succ]))
            (refine wpAnyT_any (i := 19) (v := ?_) rfl (by kernel_rfl) (by kernel_rfl) (by kernel_rfl) (by kernel_rfl) (fun _ _ _ h => h) (Or.inl ⟨by rfl, ?_⟩) ?_; rotate_left; ((intro wS hSw; (try simp only [List.getElem_toArray, List.getElem_cons_zero, List.getElem_cons_succ]); go_simp); (try with_reducible rfl)); (try simp only [Act.put, List.getElem_toArray, List.getElem_cons_zero, List.getElem_cons_succ, List.setIfInBounds_toArray, List.set_cons_zero, List.set_cons_succ]))
            (refine wpAnyT_any (i := 20) (v := ?_) rfl (by kernel_rfl) (by kernel_rfl) (by kernel_rfl) (by kernel_rfl) (fun _ _ _ h => h) (Or.inl ⟨by rfl, ?_⟩) ?_; rotate_left; ((intro wS hSw; (try simp only [List.getElem_toArray, List.getElem_cons_zero, List.getElem_cons_succ]); go_simp); (try with_reducible rfl)); (try simp only [Act.put, List.getElem_toArray, List.getElem_cons_zero, List.getElem_cons_succ, List.setIfInBounds_toArray, List.set_cons_zero, List.set_cons_succ]))
            refine wpAnyT_all (rs := [21]) (by kernel_rfl) (by decide) (AllT.consS rfl (fun K hK => ?_) AllT.nil)
            go_simp
            (refine hK.out _ _ (keep3 (show Ext wo _ by (· repeat (first | (with_reducible assumption) | exact Ext.refl _ | refine Ext.alloc ?_ _ | refine Ext.drew ?_ | refine Ext.drewN ?_ _ | (apply Ext.snart; (with_reducible assumption))))) d1 d2 d5) (fun hS => ?_); clear hK K)
            have hA : (w'.alloc (.cells #[.int .i64 0, .int .i64 0, .int .i64 0, .bool false] 29)).heap[w'.heap.size]? = some (.cells #[.int .i64 0, .int .i64 0, .int .i64 0, .bool false] 29 (0, 0)) := heap_alloc_new _ _
            have hB : (w'.alloc (.cells #[.int .i64 0, .int .i64 0, .int .i64 0, .bool false] 29)).heap[wo.heap.size]? = some (.cells #[.string ⟨#[]⟩, .string ⟨#[]⟩, .int .i64 0, .slice none 0 0] 31 (0, 0)) := (Below.block ((Ext.refl w').alloc _) _ (by omega)).trans ((Below.block hx' _ (by simp)).trans (heap_alloc_new wo _))
            have hxW : Ext wo (w'.alloc (.cells #[.int .i64 0, .int .i64 0, .int .i64 0, .bool false] 29)) := by (· repeat (first | (with_reducible assumption) | exact Ext.refl _ | refine Ext.alloc ?_ _ | refine Ext.drew ?_ | refine Ext.drewN ?_ _ | (apply Ext.snart; (with_reducible assumption))))
            have hevW : RdS rE (w'.alloc (.cells #[.int .i64 0, .int .i64 0, .int .i64 0, .bool false] 29)) (fun k => wo.heap.size ≤ k ∧ k ≠ w'.heap.size ∧ k ≠ wo.heap.size) (.slice ea' bes.length ec') bes := (hev'.ext (show Ext w' _ by (· repeat (first | (with_reducible assumption) | exact Ext.refl _ | refine Ext.alloc ?_ _ | refine Ext.drew ?_ | refine Ext.drewN ?_ _ | (apply Ext.snart; (with_reducible assumption)))))).mono (fun k hk _ => by have h1 := hk.1; have h2 := hk.2; refine ⟨?_, ?_, ?_⟩ <;> omega)
            have hAB : ¬ w'.heap.size = wo.heap.size := by omega
            have hgA : wo.heap.size ≤ w'.heap.size := by omega
            have hgB : wo.heap.size ≤ wo.heap.size := by omega
            obtain ⟨W0, hW0⟩ : ∃ W0, W0 = w'.alloc (.cells #[.int .i64 0, .int .i64 0, .int .i64 0, .bool false] 29) := ⟨_, rfl⟩
            rw [← hW0] at hA hB hxW hevW ⊢
            clear hW0
            have HA := hid hA
            have HB := hid hB
            have HEVW := hid hevW
            have HXW := hid hxW
            have yA0 : W0.cell? ⟨w'.heap.size, 0, none⟩ = some (.int .i64 0) := (cell_of_row _ _ 0 _ _ _ HA.out).trans rfl
            have xA0 := frozen_blk HA.out 0
            have yA1 : W0.cell? ⟨w'.heap.size, 1, none⟩ = some (.int .i64 0) := (cell_of_row _ _ 1 _ _ _ HA.out).trans rfl
            have xA1 := frozen_blk HA.out 1
            have yA2 : W0.cell? ⟨w'.heap.size, 2, none⟩ = some (.int .i64 0) := (cell_of_row _ _ 2 _ _ _ HA.out).trans rfl
            have xA2 := frozen_blk HA.out 2
            have yA3 : W0.cell? ⟨w'.heap.size, 3, none⟩ = some (.bool false) := (cell_of_row _ _ 3 _ _ _ HA.out).trans rfl
            have xA3 := frozen_blk HA.out 3
            have yB0 : W0.cell? ⟨wo.heap.size, 0, none⟩ = some (.string ⟨#[]⟩) := (cell_of_row _ _ 0 _ _ _ HB.out).trans rfl
            have xB0 := frozen_blk HB.out 0
            have yB1 : W0.cell? ⟨wo.heap.size, 1, none⟩ = some (.string ⟨#[]⟩) := (cell_of_row _ _ 1 _ _ _ HB.out).trans rfl
            have xB1 := frozen_blk HB.out 1
            have yB2 : W0.cell? ⟨wo.heap.size, 2, none⟩ = some (.int .i64 0) := (cell_of_row _ _ 2 _ _ _ HB.out).trans rfl
            have xB2 := frozen_blk HB.out 2
            have yB3 : W0.cell? ⟨wo.heap.size, 3, none⟩ = some (.slice none 0 0) := (cell_of_row _ _ 3 _ _ _ HB.out).trans rfl
            have xB3 := frozen_blk HB.out 3
            have hBA : ¬ wo.heap.size = w'.heap.size := by omega
            clear hA hB hxW hevW hev' hx' hsx' hx0' d1 d2 d5
            refine wpAnyT_all (rs := [23]) (by kernel_rfl) (by decide) (AllT.consF rfl rfl (fun K hK => ?_) AllT.nil)
            go_simp
            (refine hK.out _ _ ?_; clear hK K)
            refine wpAnyT_all (rs := [24]) (by kernel_rfl) (by decide) (AllT.consF rfl rfl (fun K hK => ?_) AllT.nil)
            go_simp
            (refine hK.out _ _ ?_; clear hK K)
            refine wpAnyT_all (rs := [25]) (by kernel_rfl) (by decide) (AllT.consF rfl rfl (fun K hK => ?_) AllT.nil)
            go_simp
            (refine hK.out _ _ ?_; clear hK K)
            refine wpAnyT_done (by kernel_rfl) (NoPanic.normal ?_) _
            go_wp2_with fail
            go_meet
            obtain ⟨qA, qB⟩ := eight_cells (u0 := .int .i64 zf) (u1 := .int .i64 zp) (u2 := .int .i64 zc) (u3 := .bool zg) (v0 := .string bs) (v1 := .string bk) (v2 := .int .i64 bf) (v3 := .slice ea' bes.length ec') HA.out HB.out hAB
            exact ⟨_, _, _, rfl, rfl, rfl, hgB, hgA, ⟨(cell_of_row _ _ 0 _ _ _ qA).trans rfl, (cell_of_row _ _ 1 _ _ _ qA).trans rfl, (cell_of_row _ _ 2 _ _ _ qA).trans rfl, (cell_of_row _ _ 3 _ _ _ qA).trans rfl⟩, ⟨(cell_of_row _ _ 0 _ _ _ qB).trans rfl, (cell_of_row _ _ 1 _ _ _ qB).trans rfl, (cell_of_row _ _ 2 _ _ _ qB).trans rfl, (cell_of_row _ _ 3 _ _ _ qB).trans rfl⟩, (HEVW.out.kept (eight_keep (fun h => h.2.1 rfl) (fun h => h.2.2 rfl))).mono (fun k hk _ => hk.1), eight_ext HXW.out hgA hgB⟩
          · go_simp
            (refine hK.out _ _ (keep3 (show Ext wo _ by (· repeat (first | (with_reducible assumption) | exact Ext.refl _ | refine Ext.alloc ?_ _ | refine Ext.drew ?_ | refine Ext.drewN ?_ _ | (apply Ext.snart; (with_reducible assumption))))) d1 d2 d5) (fun hS => ?_); clear hK K)
            refine wpAnyT_all (rs := [16]) (by kernel_rfl) (by decide) (AllT.consF rfl rfl (fun K hK => ?_) AllT.nil)
            go_simp
            go_at_call 17
            refine (Try_idx _ _ g x (HI.out.ext (by (· repeat (first | (with_reducible assumption) | exact Ext.refl _ | refine Ext.alloc ?_ _ | refine Ext.drew ?_ | refine Ext.drewN ?_ _ | (apply Ext.snart; (with_reducible assumption)))))) (by omega) _ hs1 (-1) (by decide) _ hs2 _ _ _ (HL.out.ext (by (· repeat (first | (with_reducible assumption) | exact Ext.refl _ | refine Ext.alloc ?_ _ | refine Ext.drew ?_ | refine Ext.drewN ?_ _ | (apply Ext.snart; (with_reducible assumption)))))) hlen (by omega)).mono ?_
            rintro e w' ⟨ev', rfl, hev', hx'⟩
            rw [HZ.out] at hev' ⊢
            dsimp only at hev' ⊢
            obtain ⟨ea', ec', rfl, -, -⟩ := hev'.slice
            have hx0' : Ext wo w' := (show Ext wo _ by (· repeat (first | (with_reducible assumption) | exact Ext.refl _ | refine Ext.alloc ?_ _ | refine Ext.drew ?_ | refine Ext.drewN ?_ _ | (apply Ext.snart; (with_reducible assumption))))).trans hx'
            have hsx' : wo.heap.size + 2 ≤ w'.heap.size := by have h : ((wo.alloc (.cells #[.string ⟨#[]⟩, .string ⟨#[]⟩, .int .i64 0, .slice none 0 0] 31)).alloc (.cells #[.int .i64 0, .int .i64 0, .int .i64 0, .bool false] 29)).heap.size ≤ w'.heap.size := hx'.size; (try simp only [heap_alloc_sz] at h); omega
            have hev' := hev'.upto.mono (S' := fun k => wo.heap.size + 2 ≤ k ∧ k < w'.heap.size) (fun k hk _ => ⟨by have h : ((wo.alloc (.cells #[.string ⟨#[]⟩, .string ⟨#[]⟩, .int .i64 0, .slice none 0 0] 31)).alloc (.cells #[.int .i64 0, .int .i64 0, .int .i64 0, .bool false] 29)).heap.size ≤ k := hk.1; (try simp only [heap_alloc_sz] at h); omega, hk.2⟩)
            (refine hK.out _ _ ?_; clear hK K)
            (refine wpAnyT_any (i := 17) (v := ?_) rfl (by kernel_rfl) (by kernel_rfl) (by kernel_rfl) (by kernel_rfl) (fun _ _ _ h => h) (Or.inl ⟨by rfl, ?_⟩) ?_; rotate_left; ((intro wS hSw; (try simp only [List.getElem_toArray, List.getElem_cons_zero, List.getElem_cons_succ]); go_simp); (try with_reducible rfl)); (try simp only [Act.put, List.getElem_toArray, List.getElem_cons_zero, List.getElem_cons_succ, List.setIfInBounds_toArray, List.set_cons_zero, List.set_cons_succ]))
            (refine wpAnyT_any (i := 18) (v := ?_) rfl (by kernel_rfl) (by kernel_rfl) (by kernel_rfl) (by kernel_rfl) (fun _ _ _ h => h) (Or.inl ⟨by rfl, ?_⟩) ?_; rotate_left; ((intro wS hSw; (try simp only [List.getElem_toArray, List.getElem_cons_zero, List.getElem_cons_succ]); go_simp); (try with_reducible rfl)); (try simp only [Act.put, List.getElem_toArray, List.getElem_cons_zero, List.getElem_cons_succ, List.setIfInBounds_toArray, List.set_cons_zero, List.set_cons_succ]))
            (refine wpAnyT_any (i := 19) (v := ?_) rfl (by kernel_rfl) (by kernel_rfl) (by kernel_rfl) (by kernel_rfl) (fun _ _ _ h => h) (Or.inl ⟨by rfl, ?_⟩) ?_; rotate_left; ((intro wS hSw; (try simp only [List.getElem_toArray, List.getElem_cons_zero, List.getElem_cons_succ]); go_simp); (try with_reducible rfl)); (try simp only [Act.put, List.getElem_toArray, List.getElem_cons_zero, List.getElem_cons_succ, List.setIfInBounds_toArray, List.set_cons_zero, List.set_cons_succ]))
            (refine wpAnyT_any (i := 20) (v := ?_) rfl (by kernel_rfl) (by kernel_rfl) (by kernel_rfl) (by kernel_rfl) (fun _ _ _ h => h) (Or.inl ⟨by rfl, ?_⟩) ?_; rotate_left; ((intro wS hSw; (try simp only [List.getElem_toArray, List.getElem_cons_zero, List.getElem_cons_succ]); go_simp); (try with_reducible rfl)); (try simp only [Act.put, List.getElem_toArray, List.getElem_cons_zero, List.getElem_cons_succ, List.setIfInBounds_toArray, List.set_cons_zero, List.set_cons_succ]))
            have hA : (w').heap[(wo.heap.size + 1)]? = some (.cells #[.int .i64 0, .int .i64 0, .int .i64 0, .bool false] 29 (0, 0)) := (Below.block hx' _ (by simp)).trans (alloc_two_b wo _ _ _)
            have hB : (w').heap[wo.heap.size]? = some (.cells #[.string ⟨#[]⟩, .string ⟨#[]⟩, .int .i64 0, .slice none 0 0] 31 (0, 0)) := (Below.block hx' _ (by simp; omega)).trans (alloc_two_a wo _ _ _)
            have hxW : Ext wo (w') := hx0'
            have hevW : RdS rE (w') (fun k => wo.heap.size ≤ k ∧ k ≠ (wo.heap.size + 1) ∧ k ≠ wo.heap.size) (.slice ea' bes.length ec') bes := (hev'.ext (show Ext w' _ by (· repeat (first | (with_reducible assumption) | exact Ext.refl _ | refine Ext.alloc ?_ _ | refine Ext.drew ?_ | refine Ext.drewN ?_ _ | (apply Ext.snart; (with_reducible assumption)))))).mono (fun k hk _ => by have h1 := hk.1; have h2 := hk.2; refine ⟨?_, ?_, ?_⟩ <;> omega)
            have hAB : ¬ (wo.heap.size + 1) = wo.heap.size := by omega
            have hgA : wo.heap.size ≤ (wo.heap.size + 1) := by omega
            have hgB : wo.heap.size ≤ wo.heap.size := by omega
            obtain ⟨W0, rfl⟩ : ∃ W0 : World, W0 = w' := ⟨_, rfl⟩
            have HA := hid hA
            have HB := hid hB
            have HEVW := hid hevW
            have HXW := hid hxW
            have yA0 : W0.cell? ⟨(wo.heap.size + 1), 0, none⟩ = some (.int .i64 0) := (cell_of_row _ _ 0 _ _ _ HA.out).trans rfl
            have xA0 := frozen_blk HA.out 0
            have yA1 : W0.cell? ⟨(wo.heap.size + 1), 1, none⟩ = some (.int .i64 0) := (cell_of_row _ _ 1 _ _ _ HA.out).trans rfl
            have xA1 := frozen_blk HA.out 1
            have yA2 : W0.cell? ⟨(wo.heap.size + 1), 2, none⟩ = some (.int .i64 0) := (cell_of_row _ _ 2 _ _ _ HA.out).trans rfl
            have xA2 := frozen_blk HA.out 2
            have yA3 : W0.cell? ⟨(wo.heap.size + 1), 3, none⟩ = some (.bool false) := (cell_of_row _ _ 3 _ _ _ HA.out).trans rfl
            have xA3 := frozen_blk HA.out 3
            have yB0 : W0.cell? ⟨wo.heap.size, 0, none⟩ = some (.string ⟨#[]⟩) := (cell_of_row _ _ 0 _ _ _ HB.out).trans rfl
            have xB0 := frozen_blk HB.out 0
            have yB1 : W0.cell? ⟨wo.heap.size, 1, none⟩ = some (.string ⟨#[]⟩) := (cell_of_row _ _ 1 _ _ _ HB.out).trans rfl
            have xB1 := frozen_blk HB.out 1
            have yB2 : W0.cell? ⟨wo.heap.size, 2, none⟩ = some (.int .i64 0) := (cell_of_row _ _ 2 _ _ _ HB.out).trans rfl
            have xB2 := frozen_blk HB.out 2
            have yB3 : W0.cell? ⟨wo.heap.size, 3, none⟩ = some (.slice none 0 0) := (cell_of_row _ _ 3 _ _ _ HB.out).trans rfl
            have xB3 := frozen_blk HB.out 3
            have hBA : ¬ wo.heap.size = (wo.heap.size + 1) := by omega
            clear hA hB hxW hevW hev' hx' hsx' hx0' d1 d2 d5
            refine wpAnyT_all (rs := [23]) (by kernel_rfl) (by decide) (AllT.consF rfl rfl (fun K hK => ?_) AllT.nil)
            go_simp
            (refine hK.out _ _ ?_; clear hK K)
            refine wpAnyT_all (rs := [24]) (by kernel_rfl) (by decide) (AllT.consF rfl rfl (fun K hK => ?_) AllT.nil)
            go_simp
            (refine hK.out _ _ ?_; clear hK K)
            refine wpAnyT_all (rs := [25]) (by kernel_rfl) (by decide) (AllT.consF rfl rfl (fun K hK => ?_) AllT.nil)
            go_simp
            (refine hK.out _ _ ?_; clear hK K)
            refine wpAnyT_done (by kernel_rfl) (NoPanic.normal ?_) _
            go_wp2_with fail
            go_meet
            obtain ⟨qA, qB⟩ := eight_cells (u0 := .int .i64 zf) (u1 := .int .i64 zp) (u2 := .int .i64 zc) (u3 := .bool zg) (v0 := .string bs) (v1 := .string bk) (v2 := .int .i64 bf) (v3 := .slice ea' bes.length ec') HA.out HB.out hAB
            exact ⟨_, _, _, rfl, rfl, rfl, hgB, hgA, ⟨(cell_of_row _ _ 0 _ _ _ qA).trans rfl, (cell_of_row _ _ 1 _ _ _ qA).trans rfl, (cell_of_row _ _ 2 _ _ _ qA).trans rfl, (cell_of_row _ _ 3 _ _ _ qA).trans rfl⟩, ⟨(cell_of_row _ _ 0 _ _ _ qB).trans rfl, (cell_of_row _ _ 1 _ _ _ qB).trans rfl, (cell_of_row _ _ 2 _ _ _ qB).trans rfl, (cell_of_row _ _ 3 _ _ _ qB).trans rfl⟩, (HEVW.out.kept (eight_keep (fun h => h.2.1 rfl) (fun h => h.2.2 rfl))).mono (fun k hk _ => hk.1), eight_ext HXW.out hgA hgB⟩
      case rest =>
        obtain ⟨gA, gB, ev, rfl, rfl, rfl, hgB, hgA, -, ⟨b0, b1, b2, b3⟩, hev, hxc⟩ := hcut
        dsimp only at b0 b1 b2 b3 hev
        obtain ⟨ea, ec, rfl, -, hec⟩ := hev.slice
        have hbl : bes.length ≤ 9223372036854775807 := by obtain ⟨_, _, e, h1, h2⟩ := hev.slice; omega
        have HEV := hid (hev.upto.mono (S' := fun k => wo.heap.size ≤ k ∧ k < wc.heap.size) fun k hk hl => hk)
        have HXC := hid hxc
        have hsxc := hxc.size
        have hgBc := World.block_lt_of_cell? _ _ b0
        dsimp only at hgBc
        clear hev hxc d1 d2 d5
        by_cases he0 : er = 0
        · subst he0
          by_cases hl0 : 0 < bes.length
          · have hta := try_add (x := x) (s := cst) (n := -1) (k := cky) (l := cl) (by rw [HZ.out]) (by rw [HZ.out]; exact hl0)
            rw [HZ.out] at hta
            obtain ⟨hk0, hadd⟩ := hta
            have hnew := tryF_new (x := x) (s := cst) (n := -1) (k := cky) (l := cl) (by rw [HZ.out]) hk0
            have hzz := hnew.2.2
            rw [HZ.out] at hzz
            simp only [Prod.mk.injEq] at hzz
            obtain ⟨-, ⟨hq1, hq2, hq3, hq4⟩, -⟩ := hzz
            subst hq1 hq2 hq4
            have HQ3 := hid hq3
            have hq5 : (0 : Int) ≤ bf ∧ bf ≤ 100000 := by omega
            obtain ⟨hq5, hq6⟩ := hq5
            have hre2 := Reach.add _ HRE.out hadd
            have hag := addF_again hadd
            have hlen2 := addF_len x (bs, bk, bf, bes)
            obtain ⟨X1, hX1⟩ : ∃ X1, (addF x (bs, bk, bf, bes)).1 = X1 := ⟨_, rfl⟩
            rw [hX1] at hre2 hag hlen2
            have hst : (addF X1 (bs, bk, bf, bes)).1 = X1 := addF_stay (by rw [hag]; split <;> decide)
            have HADD := hid hadd
            have HX1 := hid hX1
            have HRE2 := hid hre2
            have HST := hid hst
            have HAG := hid hag
            have hall2 : X1.all.length ≤ 16 * i + 16 := by omega
            have hstr2 := hre2.str bs
            clear hk0 hnew hadd hlen2 hq3 hre2 hst hag hX1
            go_wp2_with fail
            refine (Add_idx wc _ g x (HI.out.ext HXC.out) (by omega) bs hs1 bk hs2 bf ⟨by omega, by omega⟩ (fun k => wo.heap.size ≤ k ∧ k < wc.heap.size) (fun j hj h => by have h1 := (HT1.out j h).2.1; have h2 := hj.1; omega) _ bes HEV.out hbl (by omega)).mono ?_
            rintro e w4 ⟨rfl, hi4, hk4⟩
            rw [HADD.out]
            rw [HX1.out] at hi4
            have q0 := hk4.cell b0 (fun hh => by have h1 := (HT1.out _ hh).2.1; dsimp only at h1; omega)
            have q1 := hk4.cell b1 (fun hh => by have h1 := (HT1.out _ hh).2.1; dsimp only at h1; omega)
            have q2 := hk4.cell b2 (fun hh => by have h1 := (HT1.out _ hh).2.1; dsimp only at h1; omega)
            have q3 := hk4.cell b3 (fun hh => by have h1 := (HT1.out _ hh).2.1; dsimp only at h1; omega)
            have hs4 := hk4.size
            have HI4 := hid hi4
            have HJ4 := hid ((HJ.out.ext HXC.out).keep (hk4.mono fun k hk hl hh => (HT1.out k hh).2.2 hk))
            have HEV4 := hid (HEV.out.kept (hk4.mono fun k hk hl hh => by have h1 := (HT1.out k hh).2.1; have h2 := hk.1; omega))
            have HX4 := hid (show Ext w w4 from Below.trans (HX.out.trans HXC.out) (hk4.below w.heap.size ((HX.out.trans HXC.out).size) (fun k hk h => by have := (HT1.out k h).1; omega)))
            have hgB4 : gB < w4.heap.size := by omega
            clear hi4 hk4 b0 b1 b2 b3
            go_wp2_with fail
            refine (Add_idx w4 _ h x HJ4.out (by omega) bs hs1 bk hs2 bf ⟨by omega, by omega⟩ (fun k => wo.heap.size ≤ k ∧ k < wc.heap.size) (fun j hj h => by have h1 := (HT2.out j h).2; have h2 := hj.1; omega) _ bes HEV4.out hbl (by omega)).mono ?_
            rintro e w5 ⟨rfl, hi5, hk5⟩
            rw [HADD.out]
            rw [HX1.out] at hi5
            have r0 := hk5.cell q0 (fun hh => by have h1 := (HT2.out _ hh).2; dsimp only at h1; omega)
            have r1 := hk5.cell q1 (fun hh => by have h1 := (HT2.out _ hh).2; dsimp only at h1; omega)
            have r2 := hk5.cell q2 (fun hh => by have h1 := (HT2.out _ hh).2; dsimp only at h1; omega)
            have r3 := hk5.cell q3 (fun hh => by have h1 := (HT2.out _ hh).2; dsimp only at h1; omega)
            have hs5 := hk5.size
            have HJ5 := hid hi5
            have HI5 := hid (HI4.out.keep (hk5.mono fun k hk hl hh => by
              have h1 := (HT2.out k hh).2
              rcases hk with hk | hk
              · exact (HT1.out k hk).2.2 hh
              · have := hk.1; omega))
            have HEV5 := hid (HEV4.out.kept (hk5.mono fun k hk hl hh => by have h1 := (HT2.out k hh).2; have h2 := hk.1; omega))
            have HX5 := hid (show Ext w w5 from Below.trans HX4.out (hk5.below w.heap.size (HX4.out.size) (fun k hk h => by have := (HT2.out k h).1; omega)))
            have hgB5 : gB < w5.heap.size := by omega
            clear hi5 hk5 q0 q1 q2 q3
            have hxs := HX.out.size
            have hne : ∀ k, (T1 k ∨ (wc.heap.size ≤ k ∧ k < w4.heap.size)) → ¬ (T2 k ∨ (w4.heap.size ≤ k ∧ k < w5.heap.size)) := fun k hk hh => by
              rcases hk with hk | hk <;> rcases hh with hh | hh
              · exact (HT1.out k hk).2.2 hh
              · have := (HT1.out k hk).2.1; have := hh.1; omega
              · have := (HT2.out k hh).2; have := hk.1; omega
              · have := hk.2; have := hh.1; omega
            have HNE := hid hne
            clear hne
            by_cases hkk : bk.size = 0
            · have k1 := str_nil hkk
              have k2 : bk.toList.isEmpty = true := by rw [k1]; rfl
              have ag : (addF X1 (bs, bk, bf, bes)).2 = 103 := by rw [HAG.out, if_pos (bytes_nil hkk)]
              have AG := hid ag
              clear hkk ag
              go_wp2_with fail
              refine (Add_idx w5 _ h X1 HJ5.out (by omega) bs hs1 bk hs2 bf ⟨by omega, by omega⟩ (fun k => wo.heap.size ≤ k ∧ k < wc.heap.size) (fun j hj h => by rcases h with h | h; (have h1 := (HT2.out j h).2; have h2 := hj.1; omega); (have h1 := hj.2; have h2 := h.1; omega)) _ bes HEV5.out hbl (by omega)).mono ?_
              rintro e w6 ⟨rfl, hi6, hk6⟩
              rw [AG.out]
              rw [HST.out] at hi6
              have HJ6 := hid hi6
              have HI6 := hid (HI5.out.keep (hk6.mono fun k hk hl hh => HNE.out k hk hh))
              have HX6 := hid (show Ext w w6 from Below.trans HX5.out (hk6.below w.heap.size (HX5.out.size) (fun k hk h => by rcases h with h | h; (have := (HT2.out k h).1; omega); (have := h.1; omega))))
              have HS6 := hid hk6.size
              clear hi6 hk6
              go_wp2_with fail
              go_roundw
              case rel =>
                have hs6 := HS6.out
                refine ⟨i + 1, X1, _, _, by go_num, by omega, by omega, HI6.out, HJ6.out, fun k hk => ⟨?_, ?_, ?_⟩, fun k hk => ?_, HRE2.out, by omega, HX6.out⟩
                · rcases hk with hk | hk
                  · exact (HT1.out k hk).1
                  · have := hk.1; omega
                · rcases hk with hk | hk
                  · have := (HT1.out k hk).2.1; omega
                  · have := hk.2; omega
                · rintro (hh | hh)
                  · exact HNE.out k hk hh
                  · rcases hk with hk | hk
                    · have := (HT1.out k hk).2.1; have := hh.1; omega
                    · have := hk.2; have := hh.1; omega
                · rcases hk with (hk | hk) | hk
                  · have := HT2.out k hk; omega
                  · have := hk.1; have := hk.2; omega
                  · have := hk.1; have := hk.2; omega
              case measure => simp [intOf]; omega
            · have k1 := str_ne hkk
              have k2 := str_ne' hkk
              have ag : (addF X1 (bs, bk, bf, bes)).2 = 101 := by rw [HAG.out, if_neg (fun e => hkk (by rw [show bk = ⟨#[]⟩ from e]; rfl))]
              have AG := hid ag
              clear hkk ag
              go_wp2_with fail
              refine (Add_idx w5 _ h X1 HJ5.out (by omega) bs hs1 bk hs2 bf ⟨by omega, by omega⟩ (fun k => wo.heap.size ≤ k ∧ k < wc.heap.size) (fun j hj h => by rcases h with h | h; (have h1 := (HT2.out j h).2; have h2 := hj.1; omega); (have h1 := hj.2; have h2 := h.1; omega)) _ bes HEV5.out hbl (by omega)).mono ?_
              rintro e w6 ⟨rfl, hi6, hk6⟩
              rw [AG.out]
              rw [HST.out] at hi6
              have HJ6 := hid hi6
              have t1 := hk6.cell r1 (fun h => by rcases h with h | h; (have h1 := (HT2.out _ h).2; dsimp only at h1; omega); (have h2 := h.1; dsimp only at h2; omega))
              have HI6 := hid (HI5.out.keep (hk6.mono fun k hk hl hh => HNE.out k hk hh))
              have HX6 := hid (show Ext w w6 from Below.trans HX5.out (hk6.below w.heap.size (HX5.out.size) (fun k hk h => by rcases h with h | h; (have := (HT2.out k h).1; omega); (have := h.1; omega))))
              have hs6 := hk6.size
              have hgB6 : gB < w6.heap.size := by omega
              clear hi6 hk6 r0 r1 r2 r3
              go_wp2_with fail
              go_roundw
              case rel =>
                refine ⟨i + 1, X1, _, _, by go_num, by omega, by omega, HI6.out, HJ6.out, fun k hk => ⟨?_, ?_, ?_⟩, fun k hk => ?_, HRE2.out, by omega, HX6.out⟩
                · rcases hk with hk | hk
                  · exact (HT1.out k hk).1
                  · have := hk.1; omega
                · rcases hk with hk | hk
                  · have := (HT1.out k hk).2.1; omega
                  · have := hk.2; omega
                · rintro (hh | hh)
                  · exact HNE.out k hk hh
                  · rcases hk with hk | hk
                    · have := (HT1.out k hk).2.1; have := hh.1; omega
                    · have := hk.2; have := hh.1; omega
                · rcases hk with (hk | hk) | hk
                  · have := HT2.out k hk; omega
                  · have := hk.1; have := hk.2; omega
                  · have := hk.1; have := hk.2; omega
              case measure => simp [intOf]; omega
          · have hz0 : bes.length = 0 := by omega
            rw [hz0] at b3
            clear b0 b1 b2
            go_wp2_with fail
            go_roundw
            case rel => exact ⟨i + 1, x, T1, T2, by go_num, by omega, by omega, HI.out.ext HXC.out, HJ.out.ext HXC.out, fun k hk => ⟨(HT1.out k hk).1, by have := (HT1.out k hk).2.1; omega, (HT1.out k hk).2.2⟩, fun k hk => ⟨(HT2.out k hk).1, by have := (HT2.out k hk).2; omega⟩, HRE.out, by omega, HX.out.trans HXC.out⟩
            case measure => simp [intOf]; omega
        · have he1 : ((er : Int) == 0) = false := by rw [beq_eq_false_iff_ne]; omega
          have he2 : ((er : Int) != 0) = true := by rw [bne_iff_ne]; omega
          clear b0 b1 b2 b3
          go_wp2_with fail
          go_roundw
          case rel => exact ⟨i + 1, x, T1, T2, by go_num, by omega, by omega, HI.out.ext HXC.out, HJ.out.ext HXC.out, fun k hk => ⟨(HT1.out k hk).1, by have := (HT1.out k hk).2.1; omega, (HT1.out k hk).2.2⟩, fun k hk => ⟨(HT2.out k hk).1, by have := (HT2.out k hk).2; omega⟩, HRE.out, by omega, HX.out.trans HXC.out⟩
          case measure => simp [intOf]; omega
    · have hex : ¬ i < cs.length ∨ (i < cs.length ∧ ¬ i < 40) := by omega
      have hxw := hx.size
      have hfl : ∀ e ∈ x.all, e.2.2.2.2.2.length ≤ 1000000 := fun e he => by have := HRE.out.flds e he; omega
      have htk : (x.all.drop 0).take 100000 = x.all := by rw [List.drop_zero, List.take_of_length_le (by omega)]
      have HFL := hid hfl
      have HTK := hid htk
      clear hgo hx hfl htk
      rcases hex with hq | ⟨hq1, hq2⟩
      all_goals
        go_wp2_with fail
        refine (All_idx wo _ g x HI.out (by omega) HFL.out 0 100000 (by decide) (by decide)).mono ?_
        rintro e wA ⟨va, rfl, hva, hxA⟩
        rw [HTK.out] at hva
        have HVA := hid hva
        have HXA := hid hxA
        clear hva hxA
        go_wp2_with fail
        refine (All_idx wA _ h x (HJ.out.ext HXA.out) (by omega) HFL.out 0 100000 (by decide) (by decide)).mono ?_
        rintro e wB ⟨vb, rfl, hvb, hxB⟩
        rw [HTK.out] at hvb
        have HVB := hid hvb
        have HXB := hid hxB
        clear hvb hxB
        go_wp2_with fail
        refine (SameEntries_any wB _ _ va vb x.all x.all (HVA.out.ext HXB.out) HVB.out).mono ?_
        rintro e wC ⟨rfl, hxC⟩
        rw [decide_eq_true (rfl : x.all = x.all)]
        have HXC := hid hxC
        clear hxC
        go_wp2_with fail
        go_ret
        exact ⟨rfl, HX.out.trans (HXA.out.trans (HXB.out.trans (HXC.out.trans (by show Ext wC _; (· repeat (first | (with_reducible assumption) | exact Ext.refl _ | refine Ext.alloc ?_ _ | refine Ext.drew ?_ | refine Ext.drewN ?_ _ | (apply Ext.snart; (with_reducible assumption))))))))⟩
end Go.Proofs.Ythobhkmphjnlaaa
