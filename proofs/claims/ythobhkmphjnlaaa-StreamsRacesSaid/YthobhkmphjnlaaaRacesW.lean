/- StreamsRaces, walked. -/
import Derived.Test.YthobhkmphjnlaaaStrJ
import Derived.Test.YthobhkmphjnlaaaStrK
namespace Go.Proofs.Ythobhkmphjnlaaa
open Go.RowKit
set_option linter.unusedVariables false
set_option linter.unusedSimpArgs false

set_option maxRecDepth 100000 in
set_option maxHeartbeats 4000000 in
theorem streamsRaces_walk (w : World) (sv : Value) (cs : List Cl) (hs : RdS rCl w (fun k => k < w.heap.size) sv cs) (s : ByteArray) (hss0 : s.size ≤ 140737488351232) (lv : Value) (l : List Ev) (hl : RdS rE w (fun k => k < w.heap.size) lv l) (mv : Value) (m : List Ev) (hm : RdS rE w (fun k => k < w.heap.size) mv m) :
    Calls Try.prog 3 #[sv, .string s, lv, mv] w fun e w' => e = .returned (.bool true) ∧ Below w.heap.size w w' := by
  have hss : s.size ≤ 9223372036854775807 := by omega
  clear hss0
  obtain ⟨sa, sc, rfl, -, -⟩ := hs.slice
  obtain ⟨la, lc, rfl, hlc1, hlc2⟩ := hl.slice
  obtain ⟨ma, mc, rfl, hmc1, hmc2⟩ := hm.slice
  have HS := hid hs
  have HL := hid hl
  have HM := hid hm
  clear hs hl hm
  go_enter Try.func3, Try.ntmps3
  go_wp2_with fail
  refine (awake10_any w).mono ?_
  rintro e w1 ⟨rfl, hx1⟩
  have HX1 := hid hx1
  clear hx1
  go_wp2_with fail
  refine (filled_any w1 _ cs ((HS.out.ext HX1.out).mono fun k hk _ => Nat.lt_of_lt_of_le hk HX1.out.size)).mono ?_
  rintro e w2 ⟨g, x, rfl, hi2, hre, hall, hx2⟩
  have HI2 := hid hi2
  have HRE := hid hre
  have HX2 := hid hx2
  have hstr := hre.str s
  clear hi2 hre hx2
  go_wp2_with fail
  refine (Version_idx w2 _ g x HI2.out s hss).mono ?_
  rintro e w3 ⟨rfl, rfl⟩
  obtain ⟨n0, hn0⟩ : ∃ n0, n0 = (x.str s).length := ⟨_, rfl⟩
  rw [← hn0] at hstr ⊢
  have HN := hid hn0
  clear hn0
  go_wp2_with fail
  refine (Try_idx w2 _ g x HI2.out (by omega) s hss (n0 : Int) ⟨by omega, by omega⟩ ⟨#[]⟩ (by decide) _ _ l (HL.out.ext (HX1.out.trans HX2.out)) (by omega) (by have := HN.out; omega)).mono ?_
  rintro e w4 ⟨ev1, rfl, hev1, hx4⟩
  obtain ⟨z1, hz1⟩ : ∃ z1, tryF x s (n0 : Int) ⟨#[]⟩ l = z1 := ⟨_, rfl⟩
  rw [hz1] at hev1 ⊢
  have HZ1 := hid hz1
  clear hz1
  obtain ⟨⟨zf, zp, zc, zg⟩, ⟨bs, bk, bf, bes⟩, er⟩ := z1
  dsimp only at hev1 ⊢
  obtain ⟨ea, ec, rfl, hec1, hec2⟩ := hev1.slice
  have HEV1 := hid hev1.upto
  have HX4 := hid hx4
  clear hev1 hx4
  go_wp2_with fail
  obtain ⟨w5, hw5⟩ : ∃ w5, w5 = (w4.alloc (.cells #[.int .i64 zf, .int .i64 zp, .int .i64 zc, .bool zg] 29)).alloc (.cells #[.string bs, .string bk, .int .i64 bf, .slice ea bes.length ec] 31) := ⟨_, rfl⟩
  rw [← hw5]
  have hx45 : Ext w4 w5 := by rw [hw5]; exact ((Ext.refl _).alloc _).alloc _
  have hrB : w5.heap[w4.heap.size + 1]? = some (.cells #[.string bs, .string bk, .int .i64 bf, .slice ea bes.length ec] 31 (0, 0)) := by rw [hw5]; exact alloc_two_b _ _ _ _
  have hs5 : w5.heap.size = w4.heap.size + 2 := by rw [hw5]; simp
  clear hw5
  obtain ⟨gB, hgB⟩ : ∃ gB, gB = w4.heap.size + 1 := ⟨_, rfl⟩
  rw [← hgB] at hrB ⊢
  have HRB := hid hrB
  have HX45 := hid hx45
  have hgB1 : w4.heap.size ≤ gB := by omega
  have hgB2 : gB < w5.heap.size := by omega
  clear hrB hx45 hs5 hgB
  refine (Try_idx w5 _ g x (HI2.out.ext (HX4.out.trans HX45.out)) (by omega) s hss (n0 : Int) ⟨by omega, by omega⟩ ⟨#[]⟩ (by decide) _ _ m (HM.out.ext (HX1.out.trans (HX2.out.trans (HX4.out.trans HX45.out)))) (by omega) (by have := HN.out; omega)).mono ?_
  rintro e w6 ⟨ev2, rfl, hev2, hx6⟩
  obtain ⟨z2, hz2⟩ : ∃ z2, tryF x s (n0 : Int) ⟨#[]⟩ m = z2 := ⟨_, rfl⟩
  rw [hz2] at hev2 ⊢
  have HZ2 := hid hz2
  clear hz2
  obtain ⟨⟨yf, yp, yc, yg⟩, ⟨ds, dk, df, des⟩, er2⟩ := z2
  dsimp only at hev2 ⊢
  obtain ⟨fa, fc, rfl, hfc1, hfc2⟩ := hev2.slice
  have HEV2 := hid hev2.upto
  have HX6 := hid hx6
  clear hev2 hx6
  by_cases h1 : er = 0
  · subst h1
    by_cases h2 : er2 = 0
    · subst h2
      obtain ⟨r1, r2, r3, r4, r5, r6, r7, r8, r9, r10⟩ := races HRE.out (s := s) (l := l) (m := m) (by rw [← HN.out, HZ1.out]) (by rw [← HN.out, HZ2.out])
      rw [← HN.out, HZ1.out] at r1
      rw [← HN.out, HZ2.out] at r2
      rw [← HN.out] at r5 r6 r7 r8 r9 r10
      simp only [Prod.mk.injEq] at r1 r2
      obtain ⟨hq1, hq2, hq3, hq4⟩ := r1
      obtain ⟨hp1, hp2, hp3, hp4⟩ := r2
      subst hq1 hq2 hq3 hq4 hp2 hp3 hp4
      have hds : ds = bs := hp1
      subst hds
      obtain ⟨X1, hX1⟩ : ∃ X1, (addF x (ds, ⟨#[]⟩, (n0 : Int), bes)).1 = X1 := ⟨_, rfl⟩
      have hl1 := addF_len x (ds, ⟨#[]⟩, (n0 : Int), bes)
      rw [hX1] at r6 r7 r8 r9 r10 hl1
      have R5 := hid r5
      have R6 := hid r6
      have R7 := hid r7
      have R8 := hid r8
      have R9 := hid r9
      have R10 := hid r10
      have HL1 := hid hl1
      have HX1' := hid hX1
      have hs6 := HX6.out.size
      have hs4 := HX4.out.size
      have hs45 := HX45.out.size
      have hr6 := (Below.block HX6.out gB hgB2).trans HRB.out
      have b0 : w6.cell? ⟨gB, 0, none⟩ = some (.string ds) := (cell_of_row _ _ 0 _ _ _ hr6).trans rfl
      have b1 : w6.cell? ⟨gB, 1, none⟩ = some (.string ⟨#[]⟩) := (cell_of_row _ _ 1 _ _ _ hr6).trans rfl
      have b2 : w6.cell? ⟨gB, 2, none⟩ = some (.int .i64 (n0 : Int)) := (cell_of_row _ _ 2 _ _ _ hr6).trans rfl
      have b3 : w6.cell? ⟨gB, 3, none⟩ = some (.slice ea bes.length ec) := (cell_of_row _ _ 3 _ _ _ hr6).trans rfl
      have n1 : gB < w6.heap.size := by omega
      have n2 : ¬ gB = w6.heap.size := by omega
      have n3 : ¬ w6.heap.size = gB := by omega
      have n4 : ¬ gB = w6.heap.size + 1 := by omega
      have n5 : ¬ w6.heap.size + 1 = gB := by omega
      clear r5 r6 r7 r8 r9 r10 hl1 hX1 hr6
      go_wp2_with fail
      obtain ⟨w7, hw7⟩ : ∃ w7, w7 = (w6.alloc (.cells #[.int .i64 yf, .int .i64 yp, .int .i64 yc, .bool yg] 29)).alloc (.cells #[.string ds, .string ⟨#[]⟩, .int .i64 (n0 : Int), .slice fa des.length fc] 31) := ⟨_, rfl⟩
      rw [← hw7]
      have hx67 : Ext w6 w7 := by rw [hw7]; exact ((Ext.refl _).alloc _).alloc _
      have hrC : w7.heap[w6.heap.size + 1]? = some (.cells #[.string ds, .string ⟨#[]⟩, .int .i64 (n0 : Int), .slice fa des.length fc] 31 (0, 0)) := by rw [hw7]; exact alloc_two_b _ _ _ _
      have hs7 : w7.heap.size = w6.heap.size + 2 := by rw [hw7]; simp
      clear hw7 b0 b1 b2 b3 n1 n2 n3 n4 n5
      obtain ⟨gC, hgC⟩ : ∃ gC, gC = w6.heap.size + 1 := ⟨_, rfl⟩
      rw [← hgC] at hrC ⊢
      have hgC1 : w6.heap.size ≤ gC := by omega
      have hgC2 : gC < w7.heap.size := by omega
      have HX27 := hid (HX4.out.trans (HX45.out.trans (HX6.out.trans hx67)))
      have HX47 := hid (HX45.out.trans (HX6.out.trans hx67))
      have HX67 := hid hx67
      have HRC := hid hrC
      clear hx67 hrC hgC hs7
      have hnr := HN.out
      refine (Add_idx w7 _ g x (HI2.out.ext HX27.out) (by omega) ds hss ⟨#[]⟩ (by decide) (n0 : Int) ⟨by omega, by omega⟩ (fun k => w2.heap.size ≤ k ∧ k < w4.heap.size) (fun j hj h => by have h1 := hj.1; have h2 := h.2; omega) _ bes (HEV1.out.ext HX47.out) (by omega) (by omega)).mono ?_
      rintro e w8 ⟨rfl, hi8, hk8⟩
      rw [R5.out]
      rw [HX1'.out] at hi8
      have hs78 := hk8.size
      have hs67 := HX67.out.size
      have hr8 := (hk8.block gC (fun h => by have := h.2; omega) hgC2).trans HRC.out
      have hev8 := (HEV2.out.ext HX67.out).kept (hk8.mono (S' := fun k => w5.heap.size ≤ k ∧ k < w6.heap.size) fun k hk _ h => by have h1 := hk.1; have h2 := h.2; omega)
      have hmr := ((HM.out.ext (HX1.out.trans (HX2.out.trans HX27.out))).kept (hk8.mono (S' := fun k => k < w.heap.size) fun k hk _ h => by have h1 := h.1; have h2 := HX1.out.size; have h3 : k < w.heap.size := hk; omega))
      have HI8 := hid hi8
      have HEV8 := hid hev8
      have HM8 := hid hmr
      have HXW := hid (show Ext w w8 from Below.trans (HX1.out.trans (HX2.out.trans HX27.out)) (hk8.below w.heap.size ((HX1.out.trans (HX2.out.trans HX27.out)).size) (fun k hk h => by have h1 := h.1; have h2 := HX1.out.size; omega)))
      have c0 : w8.cell? ⟨gC, 0, none⟩ = some (.string ds) := (cell_of_row _ _ 0 _ _ _ hr8).trans rfl
      have c1 : w8.cell? ⟨gC, 1, none⟩ = some (.string ⟨#[]⟩) := (cell_of_row _ _ 1 _ _ _ hr8).trans rfl
      have c2 : w8.cell? ⟨gC, 2, none⟩ = some (.int .i64 (n0 : Int)) := (cell_of_row _ _ 2 _ _ _ hr8).trans rfl
      have c3 : w8.cell? ⟨gC, 3, none⟩ = some (.slice fa des.length fc) := (cell_of_row _ _ 3 _ _ _ hr8).trans rfl
      clear hi8 hk8 hr8 hev8 hmr hnr
      have hl1 := HL1.out.2
      have hstr1 := R7.out
      have HSTR1 := hid hstr1
      clear hstr1
      go_wp2_with fail
      refine (Add_idx w8 _ g X1 HI8.out (by omega) ds hss ⟨#[]⟩ (by decide) (n0 : Int) ⟨by omega, by omega⟩ (fun k => w5.heap.size ≤ k ∧ k < w6.heap.size) (fun j hj h => by have h1 := hj.1; have h2 := hj.2; rcases h with h | h; have := h.2; omega; have := h.1; omega) _ des HEV8.out (by omega) (by have := HSTR1.out; omega)).mono ?_
      rintro e w9 ⟨rfl, hi9, hk9⟩
      rw [R8.out] at hi9 ⊢
      dsimp only at hi9 ⊢
      have hm9 := HM8.out.kept (hk9.mono (S' := fun k => k < w.heap.size) fun k hk _ h => by
        have h3 : k < w.heap.size := hk
        have h2 := HX1.out.size
        rcases h with h | h
        · have := h.1; omega
        · have := h.1; have := HX2.out.size; omega)
      have HI9 := hid hi9
      have HM9 := hid hm9
      have HX9 := hid (show Ext w w9 from Below.trans HXW.out (hk9.below w.heap.size HXW.out.size (fun k hk h => by
        have h2 := HX1.out.size
        rcases h with h | h
        · have := h.1; omega
        · have := h.1; have := HX2.out.size; omega)))
      clear hi9 hk9 hm9 c0 c1 c2 c3
      go_wp2_with fail
      refine (Try_idx w9 _ g X1 HI9.out (by omega) ds hss (n0 : Int) ⟨by omega, by omega⟩ ⟨#[]⟩ (by decide) _ _ des HM9.out (by omega) (by have := HSTR1.out; omega)).mono ?_
      rintro e wA ⟨ev3, rfl, hev3, hxA⟩
      rw [R9.out]
      obtain ⟨ga, gc2, rfl, -, -⟩ := hev3.slice
      have HXA := hid hxA
      clear hev3 hxA
      generalize tryF X1 ds (n0 : Int) ⟨#[]⟩ des = z3 at *
      obtain ⟨⟨zf3, zp3, zc3, zg3⟩, ⟨bs3, bk3, bf3, bes3⟩, er3⟩ := z3
      dsimp only
      go_wp2_with fail
      refine (Try_idx _ _ g X1 (HI9.out.ext (HXA.out.trans (by (· repeat (first | (with_reducible assumption) | exact Ext.refl _ | refine Ext.alloc ?_ _ | refine Ext.drew ?_ | refine Ext.drewN ?_ _ | (apply Ext.snart; (with_reducible assumption))))))) (by omega) ds hss ((n0 : Int) + (bes.length : Int)) ⟨by omega, by omega⟩ ⟨#[]⟩ (by decide) _ _ des (HM9.out.ext (HXA.out.trans (by (· repeat (first | (with_reducible assumption) | exact Ext.refl _ | refine Ext.alloc ?_ _ | refine Ext.drew ?_ | refine Ext.drewN ?_ _ | (apply Ext.snart; (with_reducible assumption))))))) (by omega) (by have := HSTR1.out; omega)).mono ?_
      rintro e wB ⟨ev4, rfl, hev4, hxB⟩
      rw [R10.out]
      obtain ⟨ha, hc, rfl, -, -⟩ := hev4.slice
      have HXB := hid ((show Ext wA _ by (· repeat (first | (with_reducible assumption) | exact Ext.refl _ | refine Ext.alloc ?_ _ | refine Ext.drew ?_ | refine Ext.drewN ?_ _ | (apply Ext.snart; (with_reducible assumption))))).trans hxB)
      clear hev4 hxB
      generalize tryF X1 ds ((n0 : Int) + (bes.length : Int)) ⟨#[]⟩ des = z4 at *
      obtain ⟨⟨zf4, zp4, zc4, zg4⟩, ⟨bs4, bk4, bf4, bes4⟩, er4⟩ := z4
      dsimp only
      have hsum : (((X1.str ds).length : Nat) : Int) = (n0 : Int) + (bes.length : Int) := by have := HSTR1.out; omega
      have HSUM := hid hsum
      clear hsum
      go_wp2_with fail
      refine (Version_idx _ _ g X1 (HI9.out.ext (HXA.out.trans (HXB.out.trans (by (· repeat (first | (with_reducible assumption) | exact Ext.refl _ | refine Ext.alloc ?_ _ | refine Ext.drew ?_ | refine Ext.drewN ?_ _ | (apply Ext.snart; (with_reducible assumption)))))))) ds hss).mono ?_
      rintro e wC ⟨rfl, rfl⟩
      rw [HSUM.out]
      go_wp2_with fail
      go_ret
      exact ⟨rfl, HX9.out.trans (HXA.out.trans (HXB.out.trans (by show Ext wB _; (· repeat (first | (with_reducible assumption) | exact Ext.refl _ | refine Ext.alloc ?_ _ | refine Ext.drew ?_ | refine Ext.drewN ?_ _ | (apply Ext.snart; (with_reducible assumption)))))))⟩
    · have t1 : ((er2 : Int) == 0) = false := by rw [beq_eq_false_iff_ne]; omega
      have t2 : ((er2 : Int) != 0) = true := by rw [bne_iff_ne]; omega
      clear h2
      go_wp2_with fail
      go_ret
      exact ⟨rfl, HX1.out.trans (HX2.out.trans (HX4.out.trans (HX45.out.trans (HX6.out.trans (by show Ext w6 _; (· repeat (first | (with_reducible assumption) | exact Ext.refl _ | refine Ext.alloc ?_ _ | refine Ext.drew ?_ | refine Ext.drewN ?_ _ | (apply Ext.snart; (with_reducible assumption)))))))))⟩
  · have t1 : ((er : Int) == 0) = false := by rw [beq_eq_false_iff_ne]; omega
    have t2 : ((er : Int) != 0) = true := by rw [bne_iff_ne]; omega
    clear h1
    go_wp2_with fail
    go_ret
    exact ⟨rfl, HX1.out.trans (HX2.out.trans (HX4.out.trans (HX45.out.trans (HX6.out.trans (by show Ext w6 _; (· repeat (first | (with_reducible assumption) | exact Ext.refl _ | refine Ext.alloc ?_ _ | refine Ext.drew ?_ | refine Ext.drewN ?_ _ | (apply Ext.snart; (with_reducible assumption)))))))))⟩
end Go.Proofs.Ythobhkmphjnlaaa
