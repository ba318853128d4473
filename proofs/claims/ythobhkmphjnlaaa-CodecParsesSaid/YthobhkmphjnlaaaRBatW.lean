/- The document's Batch, walked. -/
import Derived.Test.YthobhkmphjnlaaaCurR
import Derived.Test.YthobhkmphjnlaaaFld
import Derived.Test.YthobhkmphjnlaaaRPutB
import Derived.Test.YthobhkmphjnlaaaAppFE
namespace Go.Proofs.Ythobhkmphjnlaaa
open Go.RowKit
set_option linter.unusedVariables false
set_option linter.unusedSimpArgs false

theorem heap_alloc_sizeR (w : World) (o : Obj) : (w.alloc o).heap.size = w.heap.size + 1 := by simp
theorem wl_appFld {w : World} {ops : Array Oper} {rest : List Oper} {o : Oper} {a : Act} {Q : Exit → Act → World → Prop} (hgd : o.guard = none) (s x : Operand)
    (ho : o.op = .call { callee := .builtin .append, args := #[s, x], argTypes := #[44, 44] }) (base : Nat)
    (v : Value) (xs : List Fld) (hs : a.eval s = v) (happ : OwnS rF 108 w base (fun _ => False) v xs)
    (f : Fld) (h1 : f.1.size ≤ 9223372036854775807) (h2 : fldI f) (h3 : f.2.2.2.size ≤ 9223372036854775807) (gb : Nat) (hx : a.eval x = .slice (some ⟨gb, 0, none⟩) 1 1)
    (hrow : w.heap[gb]? = some (.cells #[.string f.1, .bool f.2.1, .int .i64 f.2.2.1, .string f.2.2.2] 108 (0, 0))) (hl : xs.length ≤ 1000) (hbase : base ≤ w.heap.size)
    (h : ∀ v' w', OwnS rF 108 w' base (fun _ => False) v' (xs ++ [f]) → w.grownBy w' v.ownBlock → (∀ k, v'.ownBlock = some k → v.ownBlock = some k ∨ w.heap.size ≤ k) → wpList Try.prog ops Q rest (a.put o.dst v') w') : wpList Try.prog ops Q (o :: rest) a w := by
  refine wpList_plain hgd fun _ hK => wp_appS rF s x 44 44 108 _ 48 ho Try.underlying44 infoFld rfl base _ v xs hs happ _ [([.string f.1, .bool f.2.1, .int .i64 f.2.2.1, .string f.2.2.2], f)] hx ?_ ?_ (fun _ h => h.elim) (by simp; omega) (by simp; omega) hbase ?_
  · refine src_row Try.underlying44 hrow (fun u hu => ?_) rfl
    simp only [cellsOf, List.flatMap_cons, List.flatMap_nil, List.append_nil, List.mem_cons, List.not_mem_nil, or_false] at hu
    rcases hu with rfl | rfl | rfl | rfl <;> rfl
  · intro p hp
    obtain rfl := List.mem_singleton.1 hp
    exact ⟨[_], _, rfl, ⟨rfl, h1⟩, [_], _, rfl, rfl, [_], _, rfl, ⟨rfl, h2⟩, ⟨rfl, h3⟩⟩
  · intro v' w' k1 k2 k3
    exact hK _ _ (h v' w' k1 k2 k3)

theorem CurT.open {T : TypeId} {w : World} {g B : Nat} {st : St} (h : CurT T w g B st) : ∃ a cap, w.heap[g]? = some (.cells #[.slice a st.1.length cap, .bool st.2] T (0, 0)) ∧ RdB w (.slice a st.1.length cap) st.1 ∧ (0 < st.1.length → ∀ k, (Value.slice a st.1.length cap).ownBlock = some k → k < B) ∧ B ≤ g ∧ cap ≤ 9223372036854775807 := by
  obtain ⟨v, h1, h2, h3, h4⟩ := h
  obtain ⟨a, cap, rfl, _, hc, _⟩ := id h2
  exact ⟨a, cap, h1, h2, h3, h4, by unfold maxLen at hc; omega⟩

/-- what the document's Batch hands back -/
def RBatEnd (w : World) (l : List UInt8) (e : Ending) (w' : World) : Prop :=
  ((refBatF l).2 ≠ 0 → e = .returned (.tuple #[.agg #[.string ⟨#[]⟩, .string ⟨#[]⟩, .int .i64 0, .slice none 0 0], .int .i64 11])) ∧
  ((refBatF l).2 = 0 → ∃ ev, e = .returned (.tuple #[.agg #[.string (refBatF l).1.1, .string (refBatF l).1.2.1, .int .i64 (refBatF l).1.2.2.1, ev], .int .i64 0]) ∧ RdS rE w' (fun k => w.heap.size ≤ k) ev (refBatF l).1.2.2.2) ∧ Ext w w'

set_option maxRecDepth 100000 in
set_option maxHeartbeats 8000000 in
theorem RBatch_any (w : World) (v : Value) (l : List UInt8) (hv : RdB w v l) (hl : l.length ≤ 140737488351232) :
    Calls Try.prog 34 #[v] w (RBatEnd w l) := by
  obtain ⟨a, cap, rfl, hc1, hc2, -, hlt0⟩ := id hv
  have HV := hid hv
  have HVB := hid (show 0 < l.length → ∀ k, (Value.slice a l.length cap).ownBlock = some k → k < w.heap.size by
    intro h k hk
    obtain ⟨g, o, rfl, hg, -⟩ := hlt0 h
    simp only [Value.ownBlock, Option.map_some, Option.some.injEq] at hk
    omega)
  have hcapI : cap ≤ 9223372036854775807 := by unfold maxLen at hc2; omega
  clear hlt0 hc2 hv
  obtain ⟨wz, hwz⟩ : ∃ wz, wz = w.alloc (.cells #[.string ⟨#[]⟩, .string ⟨#[]⟩, .int .i64 0, .slice none 0 0] 31) := ⟨_, rfl⟩
  obtain ⟨wa, hwa⟩ : ∃ wa, wa = wz.alloc (.cells #[.slice a l.length cap, .bool false] 125) := ⟨_, rfl⟩
  have hz1 : wz.heap.size = w.heap.size + 1 := by rw [hwz]; simp
  have ha1 : wa.heap.size = w.heap.size + 2 := by rw [hwa]; simp [hz1]
  have hxz : Ext w wz := by rw [hwz]; exact (Ext.refl w).alloc _
  have hxza : Ext wz wa := by rw [hwa]; exact (Ext.refl wz).alloc _
  have HRZ := hid (show wa.heap[w.heap.size]? = some (.cells #[.string ⟨#[]⟩, .string ⟨#[]⟩, .int .i64 0, .slice none 0 0] 31 (0, 0)) from (Below.block hxza _ (by omega)).trans (by rw [hwz]; exact heap_alloc_new _ _))
  have HC0 := hid (show CurQ wa (w.heap.size + 1) w.heap.size (l, false) from ⟨_, by rw [hwa, ← hz1]; exact heap_alloc_new _ _, HV.out.ext (hxz.trans hxza), fun h k hk => HVB.out h k hk, by omega⟩)
  have HXA := hid (hxz.trans hxza)
  obtain ⟨s0, st1, hs0⟩ : ∃ s0 st1, sText (l, false) = (s0, st1) := ⟨_, _, rfl⟩
  obtain ⟨k0, st2, hk0⟩ : ∃ k0 st2, sText st1 = (k0, st2) := ⟨_, _, rfl⟩
  obtain ⟨f0, st3, hf0⟩ : ∃ f0 st3, sNum 1099511627776 st2 = (f0, st3) := ⟨_, _, rfl⟩
  obtain ⟨n0, st4, hn0⟩ : ∃ n0 st4, sNum 16 st3 = (n0, st4) := ⟨_, _, rfl⟩
  obtain ⟨ES, STE, hES⟩ : ∃ ES STE, manyA sEv n0 st4 [] = (ES, STE) := ⟨_, _, rfl⟩
  have hrb : sBat l = ((s0, k0, (f0 : Int), ES), STE) := by
    have h1 : (many sEv n0 st4) = (ES, STE) := by rw [← hES]; simp [manyA]
    unfold sBat
    rw [hs0]
    dsimp only
    rw [hk0]
    dsimp only
    rw [hf0]
    dsimp only
    rw [hn0]
    dsimp only
    rw [h1]
  have l1 := sText_len (l, false)
  have l2 := sText_len st1
  have l3 := sNum_len 1099511627776 st2
  have l4 := sNum_len 16 st3
  rw [hs0] at l1
  rw [hk0] at l2
  rw [hf0] at l3
  rw [hn0] at l4
  dsimp only at l1 l2 l3 l4
  have HS0 := hid hs0
  have HK0 := hid hk0
  have HF0 := hid hf0
  have HN0 := hid hn0
  have HES := hid hES
  have HRB := hid hrb
  clear hs0 hk0 hf0 hn0 hES hrb hxz hxza
  go_enter Try.func34, Try.ntmps34
  go_wp2_with fail
  rw [← hwz, ← hwa]
  clear hwz hwa hz1
  obtain ⟨g, hg⟩ : ∃ g, g = w.heap.size + 1 := ⟨_, rfl⟩
  rw [show CurQ wa (w.heap.size + 1) = CurQ wa g by rw [hg]] at HC0
  rw [← hg]
  have hg1 : w.heap.size < g ∧ g < w.heap.size + 2 := by omega
  clear hg
  obtain ⟨hg1, hg2⟩ := hg1
  refine (CText_any wa g w.heap.size (l, false) HC0.out).mono ?_
  rw [HS0.out]
  rintro e w1 ⟨rfl, HC1, hk1⟩
  dsimp only at HC1
  have hs1 := hk1.size
  have HC1 := hid HC1
  go_wp2_with fail
  obtain ⟨wx, hwx⟩ : ∃ wx, wx = w1.alloc (.cells #[.string s0, .string ⟨#[]⟩, .int .i64 0, .slice none 0 0] 31) := ⟨_, rfl⟩
  rw [← hwx]
  have hxx : Ext w1 wx := by rw [hwx]; exact (Ext.refl _).alloc _
  have hrx : wx.heap[w1.heap.size]? = some (.cells #[.string s0, .string ⟨#[]⟩, .int .i64 0, .slice none 0 0] 31 (0, 0)) := by rw [hwx]; exact heap_alloc_new _ _
  have hsx : wx.heap.size = w1.heap.size + 1 := by rw [hwx]; simp
  clear hwx
  obtain ⟨gx, hgx⟩ : ∃ gx, gx = w1.heap.size := ⟨_, rfl⟩
  rw [← hgx] at hrx ⊢
  refine (CText_any wx g w.heap.size st1 (HC1.out.ext hxx)).mono ?_
  rw [HK0.out]
  rintro e w2 ⟨rfl, HC2, hk2⟩
  dsimp only at HC2
  have hs2 := hk2.size
  have hgx2 : g < gx := by omega
  have hgxw2 : gx < w2.heap.size := by omega
  have hrx2 := (hk2.block gx (by show gx ≠ g; omega) (by omega)).trans hrx
  have cx21 : w2.cell? ⟨gx, 1, none⟩ = some (.string ⟨#[]⟩) := (cell_of_row _ _ _ _ _ _ hrx2).trans rfl
  have fx21 := frozen_blk hrx2 1
  have HC2 := hid HC2
  have HRX2 := hid hrx2
  have HKA := hid (show Keep (fun k => k ≠ g ∧ k < gx) wa w2 from (hk1.mono fun k hk _ => hk.1).trans ((hxx.keep _).trans (hk2.mono fun k hk _ => hk.1)))
  clear hrx hrx2 hxx hk1 hk2 hs1 hs2 hsx hgx HC1 HC0
  go_wp2_with fail
  obtain ⟨w2s, hw2s⟩ : ∃ w2s, w2s = w2.setCell ⟨gx, 1, none⟩ (.string k0) := ⟨_, rfl⟩
  rw [← hw2s]
  have hke2 : Keep (fun k => k ≠ gx) w2 w2s := by rw [hw2s]; exact (Keep.refl _ w2).setCell (by simp) _
  have hrx2 : w2s.heap[gx]? = some (.cells #[.string s0, .string k0, .int .i64 0, .slice none 0 0] 31 (0, 0)) := by rw [hw2s, set_blk HRX2.out]; rfl
  have hsz2 : w2s.heap.size = w2.heap.size := by rw [hw2s]; simp [World.setCell]
  clear hw2s cx21 fx21
  refine (CNumber_any w2s g w.heap.size st2 1099511627776 (HC2.out.keep hke2 (by omega) (fun k hk => by omega)) (by omega)).mono ?_
  rw [HF0.out]
  rintro e w3 ⟨rfl, HC3, hk3⟩
  dsimp only at HC3
  have hs3 := hk3.size
  have hrx3 := (hk3.block gx (by show gx ≠ g; omega) (by omega)).trans hrx2
  have cx32 : w3.cell? ⟨gx, 2, none⟩ = some (.int .i64 0) := (cell_of_row _ _ _ _ _ _ hrx3).trans rfl
  have fx32 := frozen_blk hrx3 2
  have HC3 := hid HC3
  have HRX3 := hid hrx3
  have HKB := hid (show Keep (fun k => k ≠ g ∧ k < gx) wa w3 from HKA.out.trans ((hke2.mono fun k hk _ => by omega).trans (hk3.mono fun k hk _ => hk.1)))
  clear hke2 hrx2 hrx3 hk3 HC2 HRX2 HKA
  go_wp2_with fail
  obtain ⟨w3s, hw3s⟩ : ∃ w3s, w3s = w3.setCell ⟨gx, 2, none⟩ (.int .i64 (f0 : Int)) := ⟨_, rfl⟩
  rw [← hw3s]
  have hke3 : Keep (fun k => k ≠ gx) w3 w3s := by rw [hw3s]; exact (Keep.refl _ w3).setCell (by simp) _
  have hrx3 : w3s.heap[gx]? = some (.cells #[.string s0, .string k0, .int .i64 (f0 : Int), .slice none 0 0] 31 (0, 0)) := by rw [hw3s, set_blk HRX3.out]; rfl
  have hsz3 : w3s.heap.size = w3.heap.size := by rw [hw3s]; simp [World.setCell]
  clear hw3s cx32 fx32
  refine (CNumber_any w3s g w.heap.size st3 16 (HC3.out.keep hke3 (by omega) (fun k hk => by omega)) (by omega)).mono ?_
  rw [HN0.out]
  rintro e w4 ⟨rfl, HC4, hk4⟩
  dsimp only at HC4
  have hs4 := hk4.size
  have HC4 := hid HC4
  have hgx3 : gx < w4.heap.size := by omega
  have hrx4 : w4.heap[gx]? = _ := (hk4.block gx (by show gx ≠ g; omega) (by omega)).trans hrx3
  have HKC := hid (show Keep (fun k => k ≠ g ∧ k < gx) wa w4 from HKB.out.trans ((hke3.mono fun k hk _ => by omega).trans (hk4.mono fun k hk _ => hk.1)))
  have hrz4 : w4.heap[w.heap.size]? = _ := (HKC.out.block _ ⟨by omega, by omega⟩ (by omega)).trans HRZ.out
  have hx4 : Ext w w4 := Below.trans HXA.out (HKC.out.below w.heap.size (by omega) (fun k hk => ⟨by omega, by omega⟩))
  have HRX4 := hid hrx4
  have HRZ4 := hid hrz4
  have HX4 := hid hx4
  clear hke3 hrx3 hrx4 hrz4 hx4 hk4 hs3 hs4 hsz2 hsz3 HC3 HRX3 HKB HKC HRZ HXA HS0 HK0 HF0 HN0
  go_wp2_with fail
  go_loopw [7] (fun u7 wr => ∃ i m : Nat, ∃ st : St, ∃ acc : List Ev, ∃ ev : Value, ∃ S : Nat → Prop, u7 = .int .i64 i ∧ i + m ≤ n0 ∧ n0 ≤ i + m ∧ manyA sEv m st acc = (ES, STE) ∧ acc.length + m ≤ 16 ∧ st.1.length ≤ l.length ∧ CurQ wr g w.heap.size st ∧ wr.heap[gx]? = some (.cells #[.string s0, .string k0, .int .i64 (f0 : Int), ev] 31 (0, 0)) ∧ wr.heap[w.heap.size]? = some (.cells #[.string ⟨#[]⟩, .string ⟨#[]⟩, .int .i64 0, .slice none 0 0] 31 (0, 0)) ∧ OwnS rE 46 wr (gx + 1) S ev acc ∧ (∀ k, S k → gx < k ∧ k < wr.heap.size) ∧ gx < wr.heap.size ∧ Ext w wr) (fun u7 _ => n0 - (intOf u7).toNat)
  case atStart => exact ⟨0, n0, st4, [], .slice none 0 0, fun _ => False, rfl, by omega, by omega, HES.out, by simp; omega, by omega, HC4.out, HRX4.out, HRZ4.out, OwnS.nil _ _ _ _ _, fun _ h => h.elim, hgx3, HX4.out⟩
  case round =>
    clear HC4 HRX4 HRZ4 HX4 HES hgx3 hgxw2
    obtain ⟨wo, rfl⟩ : ∃ wo : World, wo = wr := ⟨_, rfl⟩
    obtain ⟨i, m, st, acc, ev, S, rfl, him1, him2, hrel, hml, hstl, hcur, hrx, hrz, hown, hS, hgxl, hx⟩ := hrel
    have HREL := hid hrel
    have HCUR := hid hcur
    have HRX := hid hrx
    have HRZ := hid hrz
    have HOWN := hid hown
    have HSS := hid hS
    have HX := hid hx
    have cbad := hcur.bad
    have hxsz := hx.size
    obtain ⟨ea, ec, rfl⟩ := hown.slice
    clear hrel hcur hrx hrz hown hS hx
    by_cases hgo : 0 < m ∧ st.2 = false
    · obtain ⟨hm, hsb⟩ := hgo
      obtain ⟨m, rfl⟩ : ∃ k, m = k + 1 := ⟨m - 1, by omega⟩
      have hilt : i < n0 := by omega
      have HSUC := hid (HREL.out.symm.trans (manyA_succ sEv m st acc hsb))
      rw [hsb] at cbad
      obtain ⟨t, sA, hA⟩ : ∃ t sA, sText st = (t, sA) := ⟨_, _, rfl⟩
      obtain ⟨vn, sB, hB⟩ : ∃ v sB, sNum 1073741824 sA = (v, sB) := ⟨_, _, rfl⟩
      obtain ⟨kk, sC, hC⟩ : ∃ kk sC, sNum 16 sB = (kk, sC) := ⟨_, _, rfl⟩
      obtain ⟨FSz, sD, hD⟩ : ∃ FSz sD, manyA sFld kk sC [] = (FSz, sD) := ⟨_, _, rfl⟩
      have hrev : sEv st = ((t, (vn : Int), FSz), sD) := by
        have h1 : (many sFld kk sC) = (FSz, sD) := by rw [← hD]; simp [manyA]
        unfold sEv
        rw [hA]
        dsimp only
        rw [hB]
        dsimp only
        rw [hC]
        dsimp only
        rw [h1]
      rw [hrev] at HSUC
      dsimp only at HSUC
      have lA := sText_len st
      have lB := sNum_len 1073741824 sA
      have lC := sNum_len 16 sB
      rw [hA] at lA
      rw [hB] at lB
      rw [hC] at lC
      dsimp only at lA lB lC
      have HA := hid hA
      have HB := hid hB
      have HC := hid hC
      have HD := hid hD
      clear hA hB hC hD hrev HREL hsb
      go_wp2_with fail
      refine (CText_any wo g w.heap.size st HCUR.out).mono ?_
      rw [HA.out]
      rintro e w1 ⟨rfl, HC1, hk1⟩
      dsimp only at HC1
      have HC1 := hid HC1
      clear cbad
      have hs1 := hk1.size
      go_wp2_with fail
      obtain ⟨we, hwe⟩ : ∃ we, we = w1.alloc (.cells #[.string t, .int .i64 0, .slice none 0 0] 46) := ⟨_, rfl⟩
      rw [← hwe]
      have hxe : Ext w1 we := by rw [hwe]; exact (Ext.refl _).alloc _
      have hre : we.heap[w1.heap.size]? = some (.cells #[.string t, .int .i64 0, .slice none 0 0] 46 (0, 0)) := by rw [hwe]; exact heap_alloc_new _ _
      have hse : we.heap.size = w1.heap.size + 1 := by rw [hwe]; simp
      clear hwe
      obtain ⟨ge, hge⟩ : ∃ ge, ge = w1.heap.size := ⟨_, rfl⟩
      rw [← hge] at hre ⊢
      refine (CNumber_any we g w.heap.size sA 1073741824 (HC1.out.ext hxe) (by omega)).mono ?_
      rw [HB.out]
      rintro e w2 ⟨rfl, HC2, hk2⟩
      dsimp only at HC2
      have HC2 := hid HC2
      have hs2 := hk2.size
      have hge2 : wo.heap.size ≤ ge := by omega
      have hre2 := (hk2.block ge (by show ge ≠ g; omega) (by omega)).trans hre
      have ce21 : w2.cell? ⟨ge, 1, none⟩ = some (.int .i64 0) := (cell_of_row _ _ _ _ _ _ hre2).trans rfl
      have fe21 := frozen_blk hre2 1
      have HRE2 := hid hre2
      have HK2 := hid (show Keep (fun k => k ≠ g ∧ k < ge) wo w2 from (hk1.mono fun k hk _ => hk.1).trans ((hxe.keep _).trans (hk2.mono fun k hk _ => hk.1)))
      have hgew2 : ge < w2.heap.size := by omega
      clear hk1 hk2 hxe hre hre2 HC1 hge hse
      go_wp2_with fail
      obtain ⟨w2s, hw2s⟩ : ∃ w2s, w2s = w2.setCell ⟨ge, 1, none⟩ (.int .i64 (vn : Int)) := ⟨_, rfl⟩
      rw [← hw2s]
      have hke2 : Keep (fun k => k ≠ ge) w2 w2s := by rw [hw2s]; exact (Keep.refl _ w2).setCell (by simp) _
      have hre2 : w2s.heap[ge]? = some (.cells #[.string t, .int .i64 (vn : Int), .slice none 0 0] 46 (0, 0)) := by rw [hw2s, set_blk HRE2.out]; rfl
      have hsz2 : w2s.heap.size = w2.heap.size := by rw [hw2s]; simp [World.setCell]
      clear hw2s ce21 fe21
      refine (CNumber_any w2s g w.heap.size sB 16 (HC2.out.keep hke2 (by omega) (fun k hk => by omega)) (by omega)).mono ?_
      rw [HC.out]
      rintro e w3 ⟨rfl, HC3, hk3⟩
      dsimp only at HC3
      have hs3 := hk3.size
      have hge3 : ge < w3.heap.size := by omega
      have HC3 := hid HC3
      have HRE := hid ((hk3.block ge (by show ge ≠ g; omega) (by omega)).trans hre2)
      have HK3 := hid (show Keep (fun k => k ≠ g ∧ k < ge) wo w3 from HK2.out.trans ((hke2.mono fun k hk _ => by omega).trans (hk3.mono fun k hk _ => hk.1)))
      clear hke2 hre2 hk3 hs1 hs2 HC2 HK2 HA HB HC hs3 HRE2 hsz2 hgew2
      go_wp2_with fail
      go_loopw [10] (fun u10 wr => ∃ j m2 : Nat, ∃ sti : St, ∃ facc : List Fld, ∃ fv : Value, u10 = .int .i64 j ∧ j + m2 ≤ kk ∧ kk ≤ j + m2 ∧ manyA sFld m2 sti facc = (FSz, sD) ∧ facc.length + m2 ≤ 16 ∧ sti.1.length ≤ l.length ∧ CurQ wr g w.heap.size sti ∧ wr.heap[ge]? = some (.cells #[.string t, .int .i64 (vn : Int), fv] 46 (0, 0)) ∧ OwnS rF 108 wr (ge + 1) (fun _ => False) fv facc ∧ Keep (fun k => k ≠ g ∧ k < ge) wo wr ∧ ge < wr.heap.size) (fun u10 _ => kk - (intOf u10).toNat)
      case atStart => exact ⟨0, kk, sC, [], .slice none 0 0, rfl, by omega, by omega, HD.out, by simp; omega, by omega, HC3.out, HRE.out, OwnS.nil _ _ _ _ _, HK3.out, hge3⟩
      case round =>
        clear HC3 HRE HK3 HD hge3
        obtain ⟨wi, rfl⟩ : ∃ wi : World, wi = wr := ⟨_, rfl⟩
        obtain ⟨j, m2, sti, facc, fv, rfl, hjm1, hjm2, hrelf, hfl, hstil, hcur, hre, hownf, hki, hgei⟩ := hrel
        have HRELF := hid hrelf
        have HCI := hid hcur
        have HREI := hid hre
        have HOF := hid hownf
        have HKI := hid hki
        have cbad := hcur.bad
        obtain ⟨fa, fc, rfl⟩ := hownf.slice
        have HFB := hid (fun k hk => (HOF.out.lt k hk : ge + 1 ≤ k ∧ k < wi.heap.size))
        clear hrelf hcur hre hownf hki
        by_cases hgo2 : 0 < m2 ∧ sti.2 = false
        · obtain ⟨hm2, hsb2⟩ := hgo2
          obtain ⟨m2, rfl⟩ : ∃ k, m2 = k + 1 := ⟨m2 - 1, by omega⟩
          have hjlt : j < kk := by omega
          have HSUCF := hid (HRELF.out.symm.trans (manyA_succ sFld m2 sti facc hsb2))
          rw [hsb2] at cbad
          have lF := sFld_len sti
          obtain ⟨fn, s5, hT5⟩ : ∃ fn s5, sText sti = (fn, s5) := ⟨_, _, rfl⟩
          obtain ⟨c, s6, hY6⟩ : ∃ c s6, sByte s5 = (c, s6) := ⟨_, _, rfl⟩
          have hF6 : sFld sti = if c = 0 then ((fn, false, unzig (uintF s6.1).1, ⟨#[]⟩), (s6.1.drop (uintF s6.1).2.1, if (uintF s6.1).2.2 = 0 then s6.2 else true)) else if c = 1 then ((fn, true, 0, (sText s6).1), (sText s6).2) else ((fn, false, 0, ⟨#[]⟩), (s6.1, true)) := by
            unfold sFld
            rw [hT5]
            dsimp only
            rw [hY6]
          have l5 := sText_len sti
          have l6 := sByte_len s5
          rw [hT5] at l5
          rw [hY6] at l6
          dsimp only at l5 l6
          have HT5 := hid hT5
          have HY6 := hid hY6
          have HF6 := hid hF6
          clear hT5 hY6 hF6 HRELF hsb2
          go_wp2_with fail
          refine (CText_any wi g w.heap.size sti HCI.out).mono ?_
          rw [HT5.out]
          rintro e w5 ⟨rfl, HC5, hk5⟩
          dsimp only at HC5
          have HC5 := hid HC5
          clear cbad
          have hs5 := hk5.size
          go_wp2_with fail
          obtain ⟨wf, hwf⟩ : ∃ wf, wf = w5.alloc (.cells #[.string fn, .bool false, .int .i64 0, .string ⟨#[]⟩] 108) := ⟨_, rfl⟩
          rw [← hwf]
          have hxf : Ext w5 wf := by rw [hwf]; exact (Ext.refl _).alloc _
          have hrf : wf.heap[w5.heap.size]? = some (.cells #[.string fn, .bool false, .int .i64 0, .string ⟨#[]⟩] 108 (0, 0)) := by rw [hwf]; exact heap_alloc_new _ _
          have hsf : wf.heap.size = w5.heap.size + 1 := by rw [hwf]; simp
          clear hwf
          obtain ⟨gf, hgf⟩ : ∃ gf, gf = w5.heap.size := ⟨_, rfl⟩
          rw [← hgf] at hrf ⊢
          refine (CByte_any wf g w.heap.size s5 (HC5.out.ext hxf)).mono ?_
          rw [HY6.out]
          rintro e w6 ⟨rfl, HC6, hk6⟩
          dsimp only at HC6
          have hs6 := hk6.size
          have hgf1 : wi.heap.size ≤ gf := by omega
          have hgf2 : gf < w6.heap.size := by omega
          have HK6 := hid (show Keep (fun k => k ≠ g ∧ k < gf) wi w6 from (hk5.mono fun k hk _ => hk.1).trans ((hxf.keep _).trans (hk6.mono fun k hk _ => hk.1)))
          have HRF6 := hid ((hk6.block gf (by show gf ≠ g; omega) (by omega)).trans hrf)
          have HC6 := hid HC6
          have ng1 : ¬ gf = g := by omega
          have ng2 : ¬ g = gf := by omega
          have ng3 : ¬ ge = gf := by omega
          have ng4 : ¬ ge = g := by omega
          clear hk5 hk6 hxf hrf hsf hgf hs5 hs6 HC5 HT5 HY6
          by_cases hc0 : c = 0
          · have HFS := hid (HF6.out.trans (if_pos hc0))
            have hcv : ((c.toNat : Nat) : Int) = 0 := by rw [hc0]; rfl
            rw [hcv]
            clear hcv hc0 HF6
            rw [HFS.out] at HSUCF lF
            dsimp only at HSUCF lF
            obtain ⟨a6, p6, r6, rd6, hb6, hBg, hp6⟩ := HC6.out.open
            have RD6 := hid rd6
            have HB6 := hid hb6
            have R6 := hid r6
            have c60 : w6.cell? ⟨g, 0, none⟩ = some (.slice a6 s6.1.length p6) := (cell_of_row _ _ _ _ _ _ r6).trans rfl
            clear r6 rd6 hb6
            have hf6 := uintF_facts s6.1
            go_wp2_with fail
            refine (RInt_any w6 _ s6.1 RD6.out).mono ?_
            obtain ⟨U, HU⟩ : ∃ U, Hid (uintF s6.1 = U) := ⟨_, hid rfl⟩
            rw [HU.out] at hf6 HSUCF lF ⊢
            obtain ⟨un, uk, ue⟩ := U
            dsimp only at hf6 HSUCF lF ⊢
            rintro e w7 ⟨rfl, hb7⟩
            have hx7 := Ext.of hb7
            have HX7 := hid hx7
            have R7 := hid ((Below.block hx7 g (by omega)).trans R6.out)
            have RF7 := hid ((Below.block hx7 gf (by omega)).trans HRF6.out)
            have c70 : w7.cell? ⟨g, 0, none⟩ = some (.slice a6 s6.1.length p6) := (cell_of_row _ _ _ _ _ _ R7.out).trans rfl
            have c71 : w7.cell? ⟨g, 1, none⟩ = some (.bool s6.2) := (cell_of_row _ _ _ _ _ _ R7.out).trans rfl
            have f70 := frozen_blk R7.out 0
            have f71 := frozen_blk R7.out 1
            have c7f : w7.cell? ⟨gf, 2, none⟩ = some (.int .i64 0) := (cell_of_row _ _ _ _ _ _ RF7.out).trans rfl
            have f7f := frozen_blk RF7.out 2
            have hukl : uk ≤ s6.1.length := by omega
            have HDR7 := hid ((RD6.out.ext hx7).drop uk hukl)
            have hs7 := hx7.size
            clear hb7 hx7 c60
            by_cases hue : ue = 0
            · subst hue
              rw [if_pos rfl] at HSUCF
              go_upto_region 27 with (first | ((with_reducible refine at_slice ?_); go_must (refine wl_slice_l rfl rfl Try.underlying54 sizeU8 rfl rfl uk rfl ?_ ?_; omega)))
              obtain ⟨w8, hw8⟩ : ∃ w8, w8 = (w7.setCell ⟨gf, 2, none⟩ (.int .i64 (unzig un))).setCell ⟨g, 0, none⟩ (.slice (cutAt a6 p6 uk 1) (s6.1.length - uk) (p6 - uk)) := ⟨_, rfl⟩
              rw [← hw8]
              have hk8 : Keep (fun k => k ≠ g ∧ k ≠ gf) w7 w8 := by rw [hw8]; exact ((Keep.refl _ w7).setCell (by simp) _).setCell (by simp) _
              have HR8 := hid (show w8.heap[gf]? = some (.cells #[.string fn, .bool false, .int .i64 (unzig un), .string ⟨#[]⟩] 108 (0, 0)) by rw [hw8]; exact (((Keep.refl (fun k => k ≠ g) _).setCell (p := ⟨g, 0, none⟩) (by simp) _).block gf ng1 (by simp [World.setCell]; omega)).trans (by rw [set_blk RF7.out]; rfl))
              have HC8 := hid (show CurQ w8 g w.heap.size (s6.1.drop uk, s6.2) from ⟨.slice (cutAt a6 p6 uk 1) (s6.1.length - uk) (p6 - uk), by rw [hw8]; exact (set_blk ((((Keep.refl (fun k => k ≠ gf) _).setCell (p := ⟨gf, 2, none⟩) (by simp) _).block g ng2 (by omega)).trans R7.out) _), HDR7.out.kept (hk8.mono (fun k hk _ => hk)) (fun hl k hk => by have := HB6.out (by simp only [List.length_drop] at hl; omega) k (by rw [← hk]; exact cutAt_block.symm); omega), fun hl k hk => HB6.out (by simp only [List.length_drop] at hl; omega) k (by rw [← hk]; exact cutAt_block.symm), hBg⟩)
              clear hw8
              have hk8 : Keep (fun k => k ≠ g ∧ k ≠ gf) w6 w8 := (HX7.out.keep _).trans hk8
              have hs8 := hk8.size
              have HKW8 := hid (show Keep (fun k => k ≠ g ∧ k < gf) wi w8 from HK6.out.trans (hk8.mono fun k hk _ => ⟨hk.1, by omega⟩))
              have HRE8 := hid ((HKW8.out.block ge ⟨ng4, by omega⟩ hgei).trans HREI.out)
              have HO8 := hid (HOF.out.kept (HKW8.out.mono (fun k hk _ => by rcases hk with hk | hk; exact hk.elim; have := HFB.out k hk; omega)))
              have HKO8 := hid (HKI.out.trans (HKW8.out.mono (fun k hk _ => ⟨hk.1, by omega⟩)))
              have ce2 : w8.cell? ⟨ge, 2, none⟩ = some (.slice fa facc.length fc) := (cell_of_row _ _ _ _ _ _ HRE8.out).trans rfl
              have cf0 : w8.cell? ⟨gf, 0, none⟩ = some (.string fn) := (cell_of_row _ _ _ _ _ _ HR8.out).trans rfl
              have cf1 : w8.cell? ⟨gf, 1, none⟩ = some (.bool false) := (cell_of_row _ _ _ _ _ _ HR8.out).trans rfl
              have cf2 : w8.cell? ⟨gf, 2, none⟩ = some (.int .i64 (unzig un)) := (cell_of_row _ _ _ _ _ _ HR8.out).trans rfl
              have cf3 : w8.cell? ⟨gf, 3, none⟩ = some (.string ⟨#[]⟩) := (cell_of_row _ _ _ _ _ _ HR8.out).trans rfl
              have hz8 : ge < w8.heap.size := by omega
              clear hk8
              go_wp2_with (at_builtin; go_must (refine wl_appFld rfl _ _ rfl (ge + 1) (.slice fa facc.length fc) facc rfl (HO8.out.ext (by (· repeat (first | (with_reducible assumption) | exact Ext.refl _ | refine Ext.alloc ?_ _ | refine Ext.drew ?_ | refine Ext.drewN ?_ _ | (apply Ext.snart; (with_reducible assumption)))))) (fn, false, unzig un, ⟨#[]⟩) (by dsimp only; omega) (by first | exact lF.2.2.1 | (unfold fldI; dsimp only; omega)) (by first | (dsimp only; omega) | (show (0 : Nat) ≤ _; omega)) w8.heap.size rfl (heap_alloc_new _ _) (by omega) (by simp; omega) ?_; intro v9 w9 k1 k2 k3; have hn9 : ∀ b, (Value.slice fa facc.length fc).ownBlock = some b → ge + 1 ≤ b := (fun b hb => (HFB.out b hb).1); have hr9 := (k2.block ge (by simp; omega) (fun e => by have := hn9 ge e.symm; omega)).trans ((Below.block (show Ext w8 _ by (· repeat (first | (with_reducible assumption) | exact Ext.refl _ | refine Ext.alloc ?_ _ | refine Ext.drew ?_ | refine Ext.drewN ?_ _ | (apply Ext.snart; (with_reducible assumption))))) ge (by omega)).trans HRE8.out); have f9 := frozen_blk hr9 2; have c9 := (cell_of_row _ _ _ _ _ _ hr9 : w9.cell? ⟨ge, 2, none⟩ = _).trans rfl; obtain ⟨fa9, fc9, rfl⟩ := k1.slice; have HO9 := hid k1; have HR9 := hid hr9; have HG9 := hid k2; clear k1 k2 k3 hr9))
              have hn9 : ∀ b, (Value.slice fa facc.length fc).ownBlock = some b → ge + 1 ≤ b := fun b hb => (HFB.out b hb).1
              have hz9 := HG9.out.size
              simp only [heap_alloc_sizeR] at hz9
              go_roundw
              case rel =>
                have hke : Keep (fun k => k ≠ ge) w9 (w9.setCell ⟨ge, 2, none⟩ (.slice fa9 (facc.length + 1) fc9)) := (Keep.refl _ w9).setCell (by simp) _
                have hx8 : Ext w8 (w8.alloc (.cells #[.string fn, .bool false, .int .i64 (unzig un), .string ⟨#[]⟩] 108)) := (Ext.refl w8).alloc _
                refine ⟨j + 1, m2, (s6.1.drop uk, s6.2), facc ++ [(fn, false, unzig un, ⟨#[]⟩)], _, by go_num, by omega, by omega, HSUCF.out.symm, by rw [List.length_append, List.length_singleton]; omega, by first | omega | (dsimp only; omega), ((HC8.out.ext hx8).keep (keep_grown HG9.out) (fun e => by have := hn9 g e.symm; omega) (fun k hk e => by have := hn9 k e.symm; omega)).keep hke (by omega) (fun k hk => by omega), by rw [set_blk HR9.out]; rfl, ?_, ?_, by simp [World.setCell]; omega⟩
                · have h6 := HO9.out.kept (hke.mono (fun k hk _ => by rcases hk with hk | hk; exact hk.elim; have := (HO9.out.lt k hk).1; show k ≠ ge; omega))
                  rw [List.length_append, List.length_singleton] at h6
                  exact h6
                · exact ((HKO8.out.trans ((hx8.keep _).trans ((keep_grown HG9.out).mono (fun k hk _ e => by have := hn9 k e.symm; omega)))).setCell (by simp) _)
              case measure => simp [intOf]; omega
            · have hue0 : ((ue : Int) == 0) = false := by rw [beq_eq_false_iff_ne]; omega
              have hue1 : ((ue : Int) != 0) = true := by rw [bne_iff_ne]; omega
              rw [if_neg hue] at HSUCF
              go_upto_region 27 with (first | ((with_reducible refine at_slice ?_); go_must (refine wl_slice_l rfl rfl Try.underlying54 sizeU8 rfl rfl uk rfl ?_ ?_; omega)))
              obtain ⟨w8, hw8⟩ : ∃ w8, w8 = ((w7.setCell ⟨gf, 2, none⟩ (.int .i64 (unzig un))).setCell ⟨g, 1, none⟩ (.bool true)).setCell ⟨g, 0, none⟩ (.slice (cutAt a6 p6 uk 1) (s6.1.length - uk) (p6 - uk)) := ⟨_, rfl⟩
              rw [← hw8]
              have hk8 : Keep (fun k => k ≠ g ∧ k ≠ gf) w7 w8 := by rw [hw8]; exact (((Keep.refl _ w7).setCell (by simp) _).setCell (by simp) _).setCell (by simp) _
              have HR8 := hid (show w8.heap[gf]? = some (.cells #[.string fn, .bool false, .int .i64 (unzig un), .string ⟨#[]⟩] 108 (0, 0)) by rw [hw8]; exact ((((Keep.refl (fun k => k ≠ g) _).setCell (p := ⟨g, 1, none⟩) (by simp) _).setCell (p := ⟨g, 0, none⟩) (by simp) _).block gf ng1 (by simp [World.setCell]; omega)).trans (by rw [set_blk RF7.out]; rfl))
              have HC8 := hid (show CurQ w8 g w.heap.size (s6.1.drop uk, true) from ⟨.slice (cutAt a6 p6 uk 1) (s6.1.length - uk) (p6 - uk), by rw [hw8]; exact (set_blk (set_blk ((((Keep.refl (fun k => k ≠ gf) _).setCell (p := ⟨gf, 2, none⟩) (by simp) _).block g ng2 (by omega)).trans R7.out) _) _), HDR7.out.kept (hk8.mono (fun k hk _ => hk)) (fun hl k hk => by have := HB6.out (by simp only [List.length_drop] at hl; omega) k (by rw [← hk]; exact cutAt_block.symm); omega), fun hl k hk => HB6.out (by simp only [List.length_drop] at hl; omega) k (by rw [← hk]; exact cutAt_block.symm), hBg⟩)
              clear hw8
              have hk8 : Keep (fun k => k ≠ g ∧ k ≠ gf) w6 w8 := (HX7.out.keep _).trans hk8
              have hs8 := hk8.size
              have HKW8 := hid (show Keep (fun k => k ≠ g ∧ k < gf) wi w8 from HK6.out.trans (hk8.mono fun k hk _ => ⟨hk.1, by omega⟩))
              have HRE8 := hid ((HKW8.out.block ge ⟨ng4, by omega⟩ hgei).trans HREI.out)
              have HO8 := hid (HOF.out.kept (HKW8.out.mono (fun k hk _ => by rcases hk with hk | hk; exact hk.elim; have := HFB.out k hk; omega)))
              have HKO8 := hid (HKI.out.trans (HKW8.out.mono (fun k hk _ => ⟨hk.1, by omega⟩)))
              have ce2 : w8.cell? ⟨ge, 2, none⟩ = some (.slice fa facc.length fc) := (cell_of_row _ _ _ _ _ _ HRE8.out).trans rfl
              have cf0 : w8.cell? ⟨gf, 0, none⟩ = some (.string fn) := (cell_of_row _ _ _ _ _ _ HR8.out).trans rfl
              have cf1 : w8.cell? ⟨gf, 1, none⟩ = some (.bool false) := (cell_of_row _ _ _ _ _ _ HR8.out).trans rfl
              have cf2 : w8.cell? ⟨gf, 2, none⟩ = some (.int .i64 (unzig un)) := (cell_of_row _ _ _ _ _ _ HR8.out).trans rfl
              have cf3 : w8.cell? ⟨gf, 3, none⟩ = some (.string ⟨#[]⟩) := (cell_of_row _ _ _ _ _ _ HR8.out).trans rfl
              have hz8 : ge < w8.heap.size := by omega
              clear hk8
              go_wp2_with (at_builtin; go_must (refine wl_appFld rfl _ _ rfl (ge + 1) (.slice fa facc.length fc) facc rfl (HO8.out.ext (by (· repeat (first | (with_reducible assumption) | exact Ext.refl _ | refine Ext.alloc ?_ _ | refine Ext.drew ?_ | refine Ext.drewN ?_ _ | (apply Ext.snart; (with_reducible assumption)))))) (fn, false, unzig un, ⟨#[]⟩) (by dsimp only; omega) (by first | exact lF.2.2.1 | (unfold fldI; dsimp only; omega)) (by first | (dsimp only; omega) | (show (0 : Nat) ≤ _; omega)) w8.heap.size rfl (heap_alloc_new _ _) (by omega) (by simp; omega) ?_; intro v9 w9 k1 k2 k3; have hn9 : ∀ b, (Value.slice fa facc.length fc).ownBlock = some b → ge + 1 ≤ b := (fun b hb => (HFB.out b hb).1); have hr9 := (k2.block ge (by simp; omega) (fun e => by have := hn9 ge e.symm; omega)).trans ((Below.block (show Ext w8 _ by (· repeat (first | (with_reducible assumption) | exact Ext.refl _ | refine Ext.alloc ?_ _ | refine Ext.drew ?_ | refine Ext.drewN ?_ _ | (apply Ext.snart; (with_reducible assumption))))) ge (by omega)).trans HRE8.out); have f9 := frozen_blk hr9 2; have c9 := (cell_of_row _ _ _ _ _ _ hr9 : w9.cell? ⟨ge, 2, none⟩ = _).trans rfl; obtain ⟨fa9, fc9, rfl⟩ := k1.slice; have HO9 := hid k1; have HR9 := hid hr9; have HG9 := hid k2; clear k1 k2 k3 hr9))
              have hn9 : ∀ b, (Value.slice fa facc.length fc).ownBlock = some b → ge + 1 ≤ b := fun b hb => (HFB.out b hb).1
              have hz9 := HG9.out.size
              simp only [heap_alloc_sizeR] at hz9
              go_roundw
              case rel =>
                have hke : Keep (fun k => k ≠ ge) w9 (w9.setCell ⟨ge, 2, none⟩ (.slice fa9 (facc.length + 1) fc9)) := (Keep.refl _ w9).setCell (by simp) _
                have hx8 : Ext w8 (w8.alloc (.cells #[.string fn, .bool false, .int .i64 (unzig un), .string ⟨#[]⟩] 108)) := (Ext.refl w8).alloc _
                refine ⟨j + 1, m2, (s6.1.drop uk, true), facc ++ [(fn, false, unzig un, ⟨#[]⟩)], _, by go_num, by omega, by omega, HSUCF.out.symm, by rw [List.length_append, List.length_singleton]; omega, by first | omega | (dsimp only; omega), ((HC8.out.ext hx8).keep (keep_grown HG9.out) (fun e => by have := hn9 g e.symm; omega) (fun k hk e => by have := hn9 k e.symm; omega)).keep hke (by omega) (fun k hk => by omega), by rw [set_blk HR9.out]; rfl, ?_, ?_, by simp [World.setCell]; omega⟩
                · have h6 := HO9.out.kept (hke.mono (fun k hk _ => by rcases hk with hk | hk; exact hk.elim; have := (HO9.out.lt k hk).1; show k ≠ ge; omega))
                  rw [List.length_append, List.length_singleton] at h6
                  exact h6
                · exact ((HKO8.out.trans ((hx8.keep _).trans ((keep_grown HG9.out).mono (fun k hk _ e => by have := hn9 k e.symm; omega)))).setCell (by simp) _)
              case measure => simp [intOf]; omega
          · by_cases hc1 : c = 1
            · have HFS := hid (HF6.out.trans ((if_neg hc0).trans (if_pos hc1)))
              have hcv : ((c.toNat : Nat) : Int) = 1 := by rw [hc1]; rfl
              rw [hcv]
              clear hcv hc0 hc1 HF6
              rw [HFS.out] at HSUCF lF
              obtain ⟨fx, s7, hT7⟩ : ∃ fx s7, sText s6 = (fx, s7) := ⟨_, _, rfl⟩
              rw [hT7] at HSUCF lF
              dsimp only at HSUCF lF
              have HT7 := hid hT7
              clear hT7
              have c6f : w6.cell? ⟨gf, 1, none⟩ = some (.bool false) := (cell_of_row _ _ _ _ _ _ HRF6.out).trans rfl
              have f6f := frozen_blk HRF6.out 1
              go_wp2_with fail
              obtain ⟨w6s, hw6s⟩ : ∃ w6s, w6s = w6.setCell ⟨gf, 1, none⟩ (.bool true) := ⟨_, rfl⟩
              rw [← hw6s]
              have hke6 : Keep (fun k => k ≠ gf) w6 w6s := by rw [hw6s]; exact (Keep.refl _ w6).setCell (by simp) _
              have hrf6 : w6s.heap[gf]? = some (.cells #[.string fn, .bool true, .int .i64 0, .string ⟨#[]⟩] 108 (0, 0)) := by rw [hw6s, set_blk HRF6.out]; rfl
              have hsz6 : w6s.heap.size = w6.heap.size := by rw [hw6s]; simp [World.setCell]
              clear hw6s c6f f6f
              refine (CText_any w6s g w.heap.size s6 (HC6.out.keep hke6 ng2 (fun k hk => by omega))).mono ?_
              rw [HT7.out]
              rintro e w7 ⟨rfl, HC7, hk7⟩
              dsimp only at HC7
              have HC7 := hid HC7
              have RF7 := hid ((hk7.block gf ng1 (by omega)).trans hrf6)
              have hs7 := hk7.size
              have hkk7 : Keep (fun k => k ≠ g ∧ k ≠ gf) w6 w7 := (hke6.mono fun k hk _ => hk.2).trans (hk7.mono fun k hk _ => hk.1)
              have HKK7 := hid hkk7
              have c7f : w7.cell? ⟨gf, 3, none⟩ = some (.string ⟨#[]⟩) := (cell_of_row _ _ _ _ _ _ RF7.out).trans rfl
              have f7f := frozen_blk RF7.out 3
              clear hke6 hrf6 hk7 hkk7
              go_upto_region 27 with (fail)
              obtain ⟨w8, hw8⟩ : ∃ w8, w8 = w7.setCell ⟨gf, 3, none⟩ (.string fx) := ⟨_, rfl⟩
              rw [← hw8]
              have hk8 : Keep (fun k => k ≠ g ∧ k ≠ gf) w6 w8 := by rw [hw8]; exact HKK7.out.setCell (by simp) _
              have HR8 := hid (show w8.heap[gf]? = some (.cells #[.string fn, .bool true, .int .i64 0, .string fx] 108 (0, 0)) by rw [hw8, set_blk RF7.out]; rfl)
              have HC8 := hid (show CurQ w8 g w.heap.size s7 by rw [hw8]; exact HC7.out.keep ((Keep.refl (fun k => k ≠ gf) w7).setCell (by simp) _) ng2 (fun k hk => by omega))
              clear hw8
              have hs8 := hk8.size
              have HKW8 := hid (show Keep (fun k => k ≠ g ∧ k < gf) wi w8 from HK6.out.trans (hk8.mono fun k hk _ => ⟨hk.1, by omega⟩))
              have HRE8 := hid ((HKW8.out.block ge ⟨ng4, by omega⟩ hgei).trans HREI.out)
              have HO8 := hid (HOF.out.kept (HKW8.out.mono (fun k hk _ => by rcases hk with hk | hk; exact hk.elim; have := HFB.out k hk; omega)))
              have HKO8 := hid (HKI.out.trans (HKW8.out.mono (fun k hk _ => ⟨hk.1, by omega⟩)))
              have ce2 : w8.cell? ⟨ge, 2, none⟩ = some (.slice fa facc.length fc) := (cell_of_row _ _ _ _ _ _ HRE8.out).trans rfl
              have cf0 : w8.cell? ⟨gf, 0, none⟩ = some (.string fn) := (cell_of_row _ _ _ _ _ _ HR8.out).trans rfl
              have cf1 : w8.cell? ⟨gf, 1, none⟩ = some (.bool true) := (cell_of_row _ _ _ _ _ _ HR8.out).trans rfl
              have cf2 : w8.cell? ⟨gf, 2, none⟩ = some (.int .i64 (0)) := (cell_of_row _ _ _ _ _ _ HR8.out).trans rfl
              have cf3 : w8.cell? ⟨gf, 3, none⟩ = some (.string fx) := (cell_of_row _ _ _ _ _ _ HR8.out).trans rfl
              have hz8 : ge < w8.heap.size := by omega
              clear hk8
              go_wp2_with (at_builtin; go_must (refine wl_appFld rfl _ _ rfl (ge + 1) (.slice fa facc.length fc) facc rfl (HO8.out.ext (by (· repeat (first | (with_reducible assumption) | exact Ext.refl _ | refine Ext.alloc ?_ _ | refine Ext.drew ?_ | refine Ext.drewN ?_ _ | (apply Ext.snart; (with_reducible assumption)))))) (fn, true, 0, fx) (by dsimp only; omega) (by first | exact lF.2.2.1 | (unfold fldI; dsimp only; omega)) (by first | (dsimp only; omega) | (show (0 : Nat) ≤ _; omega)) w8.heap.size rfl (heap_alloc_new _ _) (by omega) (by simp; omega) ?_; intro v9 w9 k1 k2 k3; have hn9 : ∀ b, (Value.slice fa facc.length fc).ownBlock = some b → ge + 1 ≤ b := (fun b hb => (HFB.out b hb).1); have hr9 := (k2.block ge (by simp; omega) (fun e => by have := hn9 ge e.symm; omega)).trans ((Below.block (show Ext w8 _ by (· repeat (first | (with_reducible assumption) | exact Ext.refl _ | refine Ext.alloc ?_ _ | refine Ext.drew ?_ | refine Ext.drewN ?_ _ | (apply Ext.snart; (with_reducible assumption))))) ge (by omega)).trans HRE8.out); have f9 := frozen_blk hr9 2; have c9 := (cell_of_row _ _ _ _ _ _ hr9 : w9.cell? ⟨ge, 2, none⟩ = _).trans rfl; obtain ⟨fa9, fc9, rfl⟩ := k1.slice; have HO9 := hid k1; have HR9 := hid hr9; have HG9 := hid k2; clear k1 k2 k3 hr9))
              have hn9 : ∀ b, (Value.slice fa facc.length fc).ownBlock = some b → ge + 1 ≤ b := fun b hb => (HFB.out b hb).1
              have hz9 := HG9.out.size
              simp only [heap_alloc_sizeR] at hz9
              go_roundw
              case rel =>
                have hke : Keep (fun k => k ≠ ge) w9 (w9.setCell ⟨ge, 2, none⟩ (.slice fa9 (facc.length + 1) fc9)) := (Keep.refl _ w9).setCell (by simp) _
                have hx8 : Ext w8 (w8.alloc (.cells #[.string fn, .bool true, .int .i64 (0), .string fx] 108)) := (Ext.refl w8).alloc _
                refine ⟨j + 1, m2, s7, facc ++ [(fn, true, 0, fx)], _, by go_num, by omega, by omega, HSUCF.out.symm, by rw [List.length_append, List.length_singleton]; omega, by first | omega | (dsimp only; omega), ((HC8.out.ext hx8).keep (keep_grown HG9.out) (fun e => by have := hn9 g e.symm; omega) (fun k hk e => by have := hn9 k e.symm; omega)).keep hke (by omega) (fun k hk => by omega), by rw [set_blk HR9.out]; rfl, ?_, ?_, by simp [World.setCell]; omega⟩
                · have h6 := HO9.out.kept (hke.mono (fun k hk _ => by rcases hk with hk | hk; exact hk.elim; have := (HO9.out.lt k hk).1; show k ≠ ge; omega))
                  rw [List.length_append, List.length_singleton] at h6
                  exact h6
                · exact ((HKO8.out.trans ((hx8.keep _).trans ((keep_grown HG9.out).mono (fun k hk _ e => by have := hn9 k e.symm; omega)))).setCell (by simp) _)
              case measure => simp [intOf]; omega
            · have HFS := hid (HF6.out.trans ((if_neg hc0).trans (if_neg hc1)))
              have hn0' : ¬ c.toNat = 0 := fun h => hc0 (UInt8.toNat_inj.1 h)
              have hn1' : ¬ c.toNat = 1 := fun h => hc1 (UInt8.toNat_inj.1 h)
              have hcl : c.toNat < 256 := c.toNat_lt
              obtain ⟨cn, hcn⟩ : ∃ cn, cn = c.toNat := ⟨_, rfl⟩
              rw [← hcn] at hn0' hn1' hcl ⊢
              have hb0 : ((cn : Int) == 0) = false := by rw [beq_eq_false_iff_ne]; omega
              have hb1 : ((cn : Int) == 1) = false := by rw [beq_eq_false_iff_ne]; omega
              clear hc0 hc1 HF6 hcn hn0' hn1'
              rw [HFS.out] at HSUCF lF
              dsimp only at HSUCF lF
              obtain ⟨a6, p6, r6, rd6, hb6, hBg, hp6⟩ := HC6.out.open
              have RD6 := hid rd6
              have HB6 := hid hb6
              have R6 := hid r6
              have c61 : w6.cell? ⟨g, 1, none⟩ = some (.bool s6.2) := (cell_of_row _ _ _ _ _ _ r6).trans rfl
              have f61 := frozen_blk r6 1
              clear r6 rd6 hb6
              go_upto_region 27 with (fail)
              obtain ⟨w8, hw8⟩ : ∃ w8, w8 = w6.setCell ⟨g, 1, none⟩ (.bool true) := ⟨_, rfl⟩
              rw [← hw8]
              have hk8 : Keep (fun k => k ≠ g ∧ k ≠ gf) w6 w8 := by rw [hw8]; exact (Keep.refl _ w6).setCell (by simp) _
              have HR8 := hid (show w8.heap[gf]? = some (.cells #[.string fn, .bool false, .int .i64 0, .string ⟨#[]⟩] 108 (0, 0)) by rw [hw8]; exact (((Keep.refl (fun k => k ≠ g) _).setCell (p := ⟨g, 1, none⟩) (by simp) _).block gf ng1 (by omega)).trans HRF6.out)
              have HC8 := hid (show CurQ w8 g w.heap.size (s6.1, true) from ⟨.slice a6 s6.1.length p6, by rw [hw8]; exact set_blk R6.out _, RD6.out.kept hk8 (fun hl k hk => by have := HB6.out hl k hk; omega), HB6.out, hBg⟩)
              clear hw8
              have hs8 := hk8.size
              have HKW8 := hid (show Keep (fun k => k ≠ g ∧ k < gf) wi w8 from HK6.out.trans (hk8.mono fun k hk _ => ⟨hk.1, by omega⟩))
              have HRE8 := hid ((HKW8.out.block ge ⟨ng4, by omega⟩ hgei).trans HREI.out)
              have HO8 := hid (HOF.out.kept (HKW8.out.mono (fun k hk _ => by rcases hk with hk | hk; exact hk.elim; have := HFB.out k hk; omega)))
              have HKO8 := hid (HKI.out.trans (HKW8.out.mono (fun k hk _ => ⟨hk.1, by omega⟩)))
              have ce2 : w8.cell? ⟨ge, 2, none⟩ = some (.slice fa facc.length fc) := (cell_of_row _ _ _ _ _ _ HRE8.out).trans rfl
              have cf0 : w8.cell? ⟨gf, 0, none⟩ = some (.string fn) := (cell_of_row _ _ _ _ _ _ HR8.out).trans rfl
              have cf1 : w8.cell? ⟨gf, 1, none⟩ = some (.bool false) := (cell_of_row _ _ _ _ _ _ HR8.out).trans rfl
              have cf2 : w8.cell? ⟨gf, 2, none⟩ = some (.int .i64 (0)) := (cell_of_row _ _ _ _ _ _ HR8.out).trans rfl
              have cf3 : w8.cell? ⟨gf, 3, none⟩ = some (.string ⟨#[]⟩) := (cell_of_row _ _ _ _ _ _ HR8.out).trans rfl
              have hz8 : ge < w8.heap.size := by omega
              clear hk8
              go_wp2_with (at_builtin; go_must (refine wl_appFld rfl _ _ rfl (ge + 1) (.slice fa facc.length fc) facc rfl (HO8.out.ext (by (· repeat (first | (with_reducible assumption) | exact Ext.refl _ | refine Ext.alloc ?_ _ | refine Ext.drew ?_ | refine Ext.drewN ?_ _ | (apply Ext.snart; (with_reducible assumption)))))) (fn, false, 0, ⟨#[]⟩) (by dsimp only; omega) (by first | exact lF.2.2.1 | (unfold fldI; dsimp only; omega)) (by first | (dsimp only; omega) | (show (0 : Nat) ≤ _; omega)) w8.heap.size rfl (heap_alloc_new _ _) (by omega) (by simp; omega) ?_; intro v9 w9 k1 k2 k3; have hn9 : ∀ b, (Value.slice fa facc.length fc).ownBlock = some b → ge + 1 ≤ b := (fun b hb => (HFB.out b hb).1); have hr9 := (k2.block ge (by simp; omega) (fun e => by have := hn9 ge e.symm; omega)).trans ((Below.block (show Ext w8 _ by (· repeat (first | (with_reducible assumption) | exact Ext.refl _ | refine Ext.alloc ?_ _ | refine Ext.drew ?_ | refine Ext.drewN ?_ _ | (apply Ext.snart; (with_reducible assumption))))) ge (by omega)).trans HRE8.out); have f9 := frozen_blk hr9 2; have c9 := (cell_of_row _ _ _ _ _ _ hr9 : w9.cell? ⟨ge, 2, none⟩ = _).trans rfl; obtain ⟨fa9, fc9, rfl⟩ := k1.slice; have HO9 := hid k1; have HR9 := hid hr9; have HG9 := hid k2; clear k1 k2 k3 hr9))
              have hn9 : ∀ b, (Value.slice fa facc.length fc).ownBlock = some b → ge + 1 ≤ b := fun b hb => (HFB.out b hb).1
              have hz9 := HG9.out.size
              simp only [heap_alloc_sizeR] at hz9
              go_roundw
              case rel =>
                have hke : Keep (fun k => k ≠ ge) w9 (w9.setCell ⟨ge, 2, none⟩ (.slice fa9 (facc.length + 1) fc9)) := (Keep.refl _ w9).setCell (by simp) _
                have hx8 : Ext w8 (w8.alloc (.cells #[.string fn, .bool false, .int .i64 (0), .string ⟨#[]⟩] 108)) := (Ext.refl w8).alloc _
                refine ⟨j + 1, m2, (s6.1, true), facc ++ [(fn, false, 0, ⟨#[]⟩)], _, by go_num, by omega, by omega, HSUCF.out.symm, by rw [List.length_append, List.length_singleton]; omega, by first | omega | (dsimp only; omega), ((HC8.out.ext hx8).keep (keep_grown HG9.out) (fun e => by have := hn9 g e.symm; omega) (fun k hk e => by have := hn9 k e.symm; omega)).keep hke (by omega) (fun k hk => by omega), by rw [set_blk HR9.out]; rfl, ?_, ?_, by simp [World.setCell]; omega⟩
                · have h6 := HO9.out.kept (hke.mono (fun k hk _ => by rcases hk with hk | hk; exact hk.elim; have := (HO9.out.lt k hk).1; show k ≠ ge; omega))
                  rw [List.length_append, List.length_singleton] at h6
                  exact h6
                · exact ((HKO8.out.trans ((hx8.keep _).trans ((keep_grown HG9.out).mono (fun k hk _ e => by have := hn9 k e.symm; omega)))).setCell (by simp) _)
              case measure => simp [intOf]; omega
        · have hRe := HRELF.out.symm.trans (manyA_end sFld m2 sti facc hgo2)
          simp only [Prod.mk.injEq] at hRe
          obtain ⟨hR1, hR2⟩ := hRe
          subst hR1 hR2
          have hSa : ∀ k, (Value.slice ea acc.length ec).ownBlock = some k → ¬ S k ∧ gx + 1 ≤ k ∧ k < wo.heap.size := fun k hk => by
            have h1 := HOWN.out.lt k hk
            obtain ⟨_, _, _, h2, _⟩ := HOWN.out
            exact ⟨h2 k hk, h1.1, h1.2⟩
          have HSA := hid hSa
          have hrxi := (HKI.out.block gx ⟨by omega, by omega⟩ hgxl).trans HRX.out
          have hrzi := (HKI.out.block w.heap.size ⟨by omega, by omega⟩ (by omega)).trans HRZ.out
          have HRXI := hid hrxi
          have HRZI := hid hrzi
          have cx3 : wi.cell? ⟨gx, 3, none⟩ = some (.slice ea acc.length ec) := (cell_of_row _ _ _ _ _ _ hrxi).trans rfl
          have ce0 : wi.cell? ⟨ge, 0, none⟩ = some (.string t) := (cell_of_row _ _ _ _ _ _ HREI.out).trans rfl
          have ce1 : wi.cell? ⟨ge, 1, none⟩ = some (.int .i64 (vn : Int)) := (cell_of_row _ _ _ _ _ _ HREI.out).trans rfl
          have ce2 : wi.cell? ⟨ge, 2, none⟩ = some (.slice fa FSz.length fc) := (cell_of_row _ _ _ _ _ _ HREI.out).trans rfl
          have hxi : Ext wi (wi.alloc (.cells #[.string t, .int .i64 (vn : Int), .slice fa FSz.length fc] 46)) := (Ext.refl wi).alloc _
          have HXI := hid hxi
          have HOW := hid (show OwnS rE 46 (wi.alloc (.cells #[.string t, .int .i64 (vn : Int), .slice fa FSz.length fc] 46)) (gx + 1) (fun k => S k ∨ (Value.slice fa FSz.length fc).ownBlock = some k) (.slice ea acc.length ec) acc from by
            have h1 := HOWN.out.kept (HKI.out.mono (fun k hk hl => ⟨by rcases hk with hk | hk; have := (HSS.out k hk).1; omega; have := (HSA.out k hk).2.1; omega, by omega⟩))
            exact (h1.widen (fun k hk _ => .inl hk) (fun k hk e => by rcases e with e | e; exact (HSA.out k hk).1 e; have := (HFB.out k e).1; have := (HSA.out k hk).2.2; omega)).ext hxi)
          have HRF := hid (show RdS rF (wi.alloc (.cells #[.string t, .int .i64 (vn : Int), .slice fa FSz.length fc] 46)) (fun k => S k ∨ (Value.slice fa FSz.length fc).ownBlock = some k) (.slice fa FSz.length fc) FSz from (HOF.out.rd.ext hxi).mono (fun k hk _ => by rcases hk with hk | hk; exact hk.elim; exact .inr hk))
          clear hSa hrxi hrzi hxi HRELF
          have hex : (j < kk ∧ sD.2 = true) ∨ ¬ j < kk := by
            by_cases h0 : j < kk
            · left; refine ⟨h0, ?_⟩
              cases h : sD.2
              · exact absurd ⟨by omega, h⟩ hgo2
              · rfl
            · exact .inr h0
          clear hgo2
          rcases hex with ⟨hjlt, hb2⟩ | hjlt
          · rw [hb2] at cbad
            go_wp2_with (at_builtin; go_must (refine wl_appEvt rfl _ _ rfl (gx + 1) _ (.slice ea acc.length ec) acc rfl HOW.out (t, (vn : Int), FSz) (.slice fa FSz.length fc) (by dsimp only; omega) (by dsimp only; omega) HRF.out rfl wi.heap.size rfl (heap_alloc_new _ _) (fun k hk => by rcases hk with hk | hk; have := (HSS.out k hk).2; simp; omega; have := (HFB.out k hk).2; simp; omega) (by omega) (by simp; omega) ?_; intro v9 w9 k1 k2 k3; have hn9 : ∀ b, (Value.slice ea acc.length ec).ownBlock = some b → gx + 1 ≤ b := (fun b hb => (HSA.out b hb).2.1); have hr9 := (k2.block gx (by simp; omega) (fun e => by have := hn9 gx e.symm; omega)).trans ((Below.block HXI.out gx (by omega)).trans HRXI.out); have f9 := frozen_blk hr9 3; have c9 := (cell_of_row _ _ _ _ _ _ hr9 : w9.cell? ⟨gx, 3, none⟩ = _).trans rfl; obtain ⟨va, vc, rfl⟩ := k1.slice; have HO9 := hid k1; have HR9 := hid hr9; have HG9 := hid k2; clear k1 k2 k3 hr9))
            go_roundw
            case rel =>
              have hn9' : ∀ b, (Value.slice ea acc.length ec).ownBlock = some b → gx + 1 ≤ b := fun b hb => (HSA.out b hb).2.1
              have hz9 := HG9.out.size
              simp only [heap_alloc_sizeR] at hz9
              have hl9 : ∀ k, (S k ∨ (Value.slice fa FSz.length fc).ownBlock = some k) → gx < k ∧ k < w9.heap.size := fun k hk => by
                rcases hk with hk | hk
                · have := HSS.out k hk; exact ⟨this.1, by omega⟩
                · have := HFB.out k hk; exact ⟨by omega, by omega⟩
              have hke : Keep (fun k => k ≠ gx) w9 (w9.setCell ⟨gx, 3, none⟩ (.slice va (acc.length + 1) vc)) := (Keep.refl _ w9).setCell (by simp) _
              refine ⟨i + 1, m, sD, acc ++ [(t, (vn : Int), FSz)], _, fun k => S k ∨ (Value.slice fa FSz.length fc).ownBlock = some k, by go_num, by omega, by omega, HSUC.out.symm, by rw [List.length_append, List.length_singleton]; omega, hstil, ?_, by rw [set_blk HR9.out]; rfl, ?_, ?_, fun k hk => by have := hl9 k hk; simp [World.setCell]; exact this, by simp [World.setCell]; omega, ?_⟩
              · exact ((HCI.out.ext HXI.out).keep (keep_grown HG9.out) (fun e => by have := hn9' g e.symm; omega) (fun k hk e => by have := hn9' k e.symm; omega)).keep hke (by omega) (fun k hk => by omega)
              · rw [hke.block w.heap.size (by show w.heap.size ≠ gx; omega) (by omega), HG9.out.block w.heap.size (by simp; omega) (fun e => by have := hn9' _ e.symm; omega), Below.block HXI.out _ (by omega)]
                exact HRZI.out
              · have h6 := HO9.out.kept (hke.mono (fun k hk hl => by rcases hk with hk | hk; have := (hl9 k hk).1; show k ≠ gx; omega; have := (HO9.out.lt k hk).1; show k ≠ gx; omega))
                rw [List.length_append, List.length_singleton] at h6
                exact h6
              · have x1 : Ext w wi := Below.trans HX.out (HKI.out.below w.heap.size (by omega) (fun k hk => ⟨by omega, by omega⟩))
                exact ((x1.trans HXI.out).grown HG9.out (fun k hk => by have := hn9' k hk; omega)).setCell (by show w.heap.size ≤ gx; omega) _
            case measure => simp [intOf]; omega
          · skip
            go_wp2_with (at_builtin; go_must (refine wl_appEvt rfl _ _ rfl (gx + 1) _ (.slice ea acc.length ec) acc rfl HOW.out (t, (vn : Int), FSz) (.slice fa FSz.length fc) (by dsimp only; omega) (by dsimp only; omega) HRF.out rfl wi.heap.size rfl (heap_alloc_new _ _) (fun k hk => by rcases hk with hk | hk; have := (HSS.out k hk).2; simp; omega; have := (HFB.out k hk).2; simp; omega) (by omega) (by simp; omega) ?_; intro v9 w9 k1 k2 k3; have hn9 : ∀ b, (Value.slice ea acc.length ec).ownBlock = some b → gx + 1 ≤ b := (fun b hb => (HSA.out b hb).2.1); have hr9 := (k2.block gx (by simp; omega) (fun e => by have := hn9 gx e.symm; omega)).trans ((Below.block HXI.out gx (by omega)).trans HRXI.out); have f9 := frozen_blk hr9 3; have c9 := (cell_of_row _ _ _ _ _ _ hr9 : w9.cell? ⟨gx, 3, none⟩ = _).trans rfl; obtain ⟨va, vc, rfl⟩ := k1.slice; have HO9 := hid k1; have HR9 := hid hr9; have HG9 := hid k2; clear k1 k2 k3 hr9))
            go_roundw
            case rel =>
              have hn9' : ∀ b, (Value.slice ea acc.length ec).ownBlock = some b → gx + 1 ≤ b := fun b hb => (HSA.out b hb).2.1
              have hz9 := HG9.out.size
              simp only [heap_alloc_sizeR] at hz9
              have hl9 : ∀ k, (S k ∨ (Value.slice fa FSz.length fc).ownBlock = some k) → gx < k ∧ k < w9.heap.size := fun k hk => by
                rcases hk with hk | hk
                · have := HSS.out k hk; exact ⟨this.1, by omega⟩
                · have := HFB.out k hk; exact ⟨by omega, by omega⟩
              have hke : Keep (fun k => k ≠ gx) w9 (w9.setCell ⟨gx, 3, none⟩ (.slice va (acc.length + 1) vc)) := (Keep.refl _ w9).setCell (by simp) _
              refine ⟨i + 1, m, sD, acc ++ [(t, (vn : Int), FSz)], _, fun k => S k ∨ (Value.slice fa FSz.length fc).ownBlock = some k, by go_num, by omega, by omega, HSUC.out.symm, by rw [List.length_append, List.length_singleton]; omega, hstil, ?_, by rw [set_blk HR9.out]; rfl, ?_, ?_, fun k hk => by have := hl9 k hk; simp [World.setCell]; exact this, by simp [World.setCell]; omega, ?_⟩
              · exact ((HCI.out.ext HXI.out).keep (keep_grown HG9.out) (fun e => by have := hn9' g e.symm; omega) (fun k hk e => by have := hn9' k e.symm; omega)).keep hke (by omega) (fun k hk => by omega)
              · rw [hke.block w.heap.size (by show w.heap.size ≠ gx; omega) (by omega), HG9.out.block w.heap.size (by simp; omega) (fun e => by have := hn9' _ e.symm; omega), Below.block HXI.out _ (by omega)]
                exact HRZI.out
              · have h6 := HO9.out.kept (hke.mono (fun k hk hl => by rcases hk with hk | hk; have := (hl9 k hk).1; show k ≠ gx; omega; have := (HO9.out.lt k hk).1; show k ≠ gx; omega))
                rw [List.length_append, List.length_singleton] at h6
                exact h6
              · have x1 : Ext w wi := Below.trans HX.out (HKI.out.below w.heap.size (by omega) (fun k hk => ⟨by omega, by omega⟩))
                exact ((x1.trans HXI.out).grown HG9.out (fun k hk => by have := hn9' k hk; omega)).setCell (by show w.heap.size ≤ gx; omega) _
            case measure => simp [intOf]; omega
    · have hRe := HREL.out.symm.trans (manyA_end sEv m st acc hgo)
      simp only [Prod.mk.injEq] at hRe
      obtain ⟨hR1, hR2⟩ := hRe
      subst hR1 hR2
      have nx1 : ¬ gx = w.heap.size := by omega
      have nx2 : ¬ w.heap.size = gx := by omega
      obtain ⟨aC, pC, rC, rdC, -, -, -⟩ := HCUR.out.open
      have cC0 : wo.cell? ⟨g, 0, none⟩ = some (.slice aC STE.1.length pC) := (cell_of_row _ _ _ _ _ _ rC).trans rfl
      clear rC rdC
      have HBD := hid (show refBatF l = if STE.2 = true ∨ STE.1 ≠ [] ∨ putB (s0, k0, (f0 : Int), ES) ≠ (l, 0) then ((⟨#[]⟩, ⟨#[]⟩, 0, []), 11) else ((s0, k0, (f0 : Int), ES), 0) by unfold refBatF; rw [HRB.out])
      clear HREL HRB
      by_cases hb : STE.2 = true
      · rw [hb] at cbad
        have HBF := hid (HBD.out.trans (if_pos (.inl hb)))
        have hex : i < n0 ∨ ¬ i < n0 := by omega
        clear hgo hb HBD
        have fz0 := frozen_blk HRZ.out 0
        have fz1 := frozen_blk HRZ.out 1
        have fz2 := frozen_blk HRZ.out 2
        have fz3 := frozen_blk HRZ.out 3
        have z0 := (cell_of_row _ _ _ _ _ _ HRZ.out : wo.cell? ⟨w.heap.size, 0, none⟩ = _).trans rfl
        have z1 := (cell_of_row _ _ _ _ _ _ HRZ.out : wo.cell? ⟨w.heap.size, 1, none⟩ = _).trans rfl
        have z2 := (cell_of_row _ _ _ _ _ _ HRZ.out : wo.cell? ⟨w.heap.size, 2, none⟩ = _).trans rfl
        have z3 := (cell_of_row _ _ _ _ _ _ HRZ.out : wo.cell? ⟨w.heap.size, 3, none⟩ = _).trans rfl
        rcases hex with hin | hin
        all_goals
          go_wp2_with fail
          obtain ⟨q0, q1, q2, q3⟩ := four_cells (v0 := .string ⟨#[]⟩) (v1 := .string ⟨#[]⟩) (v2 := .int .i64 0) (v3 := .slice none 0 0) HRZ.out
          refine bodyPost_ret (v := .tuple #[.agg #[.string ⟨#[]⟩, .string ⟨#[]⟩, .int .i64 0, .slice none 0 0], .int .i64 11]) (by simp [results, Try.results34, go_sem, q0, q1, q2, q3]) rfl ?_
          refine ⟨fun _ => rfl, fun h => absurd h (by rw [HBF.out]; decide), ?_⟩
          exact Below.trans (HX.out) below_four
      · have hbf : STE.2 = false := by simpa using hb
        have hin : ¬ i < n0 := by
          intro h
          exact absurd ⟨by omega, hbf⟩ hgo
        rw [hbf] at cbad
        by_cases hlen : 0 < STE.1.length
        · have HBF := hid (HBD.out.trans (if_pos (.inr (.inl (fun e => by rw [e] at hlen; simp at hlen)))))
          clear hgo hb HBD hbf
          have fz0 := frozen_blk HRZ.out 0
          have fz1 := frozen_blk HRZ.out 1
          have fz2 := frozen_blk HRZ.out 2
          have fz3 := frozen_blk HRZ.out 3
          have z0 := (cell_of_row _ _ _ _ _ _ HRZ.out : wo.cell? ⟨w.heap.size, 0, none⟩ = _).trans rfl
          have z1 := (cell_of_row _ _ _ _ _ _ HRZ.out : wo.cell? ⟨w.heap.size, 1, none⟩ = _).trans rfl
          have z2 := (cell_of_row _ _ _ _ _ _ HRZ.out : wo.cell? ⟨w.heap.size, 2, none⟩ = _).trans rfl
          have z3 := (cell_of_row _ _ _ _ _ _ HRZ.out : wo.cell? ⟨w.heap.size, 3, none⟩ = _).trans rfl
          go_wp2_with fail
          obtain ⟨q0, q1, q2, q3⟩ := four_cells (v0 := .string ⟨#[]⟩) (v1 := .string ⟨#[]⟩) (v2 := .int .i64 0) (v3 := .slice none 0 0) HRZ.out
          refine bodyPost_ret (v := .tuple #[.agg #[.string ⟨#[]⟩, .string ⟨#[]⟩, .int .i64 0, .slice none 0 0], .int .i64 11]) (by simp [results, Try.results34, go_sem, q0, q1, q2, q3]) rfl ?_
          refine ⟨fun _ => rfl, fun h => absurd h (by rw [HBF.out]; decide), ?_⟩
          exact Below.trans (HX.out) below_four
        · have hnil : STE.1 = [] := List.eq_nil_of_length_eq_zero (by omega)
          have hln0 : STE.1.length = 0 := by omega
          rw [hln0] at cC0
          have cx0 : wo.cell? ⟨gx, 0, none⟩ = some (.string s0) := (cell_of_row _ _ _ _ _ _ HRX.out).trans rfl
          have cx1 : wo.cell? ⟨gx, 1, none⟩ = some (.string k0) := (cell_of_row _ _ _ _ _ _ HRX.out).trans rfl
          have cx2 : wo.cell? ⟨gx, 2, none⟩ = some (.int .i64 (f0 : Int)) := (cell_of_row _ _ _ _ _ _ HRX.out).trans rfl
          have cx3 : wo.cell? ⟨gx, 3, none⟩ = some (.slice ea ES.length ec) := (cell_of_row _ _ _ _ _ _ HRX.out).trans rfl
          have HBD2 := hid (show refBatF l = if putB (s0, k0, (f0 : Int), ES) ≠ (l, 0) then ((⟨#[]⟩, ⟨#[]⟩, 0, []), 11) else ((s0, k0, (f0 : Int), ES), 0) by rw [HBD.out, hnil, hbf]; simp)
          obtain ⟨PP, hPP⟩ : ∃ PP, putB (s0, k0, (f0 : Int), ES) = PP := ⟨_, rfl⟩
          rw [hPP] at HBD2
          obtain ⟨B, pc⟩ := PP
          clear hln0 hnil hlen hbf hb hgo HBD
          have HP0 := hid (show (putB (s0, k0, (f0 : Int), ES)).2 = pc by rw [hPP])
          have HP1 := hid (show (putB (s0, k0, (f0 : Int), ES)).1 = B by rw [hPP])
          clear hPP
          by_cases hp0 : pc = 0
          · subst hp0
            by_cases hq : B = l
            · subst hq
              have HBF := hid (HBD2.out.trans (if_neg (by simp)))
              have hrl := run_strB (HV.out.ext HX.out)
              go_wp2_with fail
              refine (RPutBatch_any wo _ s0 k0 (f0 : Int) (.slice ea ES.length ec) ES (by omega) (by omega) ⟨by omega, by omega⟩ HOWN.out.rd).mono ?_
              intro e w9 hp
              obtain ⟨h1, -, hx9⟩ := hp
              obtain ⟨v9, rfl, ho9⟩ := h1 HP0.out
              rw [HP1.out] at ho9
              have hx9 := Ext.of hx9
              obtain ⟨a9, c9, rfl⟩ := OwnB.slice ho9
              have hr9 := run_strB (rdB_own ho9)
              have hrl9 := run_strB (HV.out.ext (HX.out.trans hx9))
              have HX9 := hid hx9
              clear h1 ho9 hrl
              have hrx9 := (Below.block hx9 gx hgxl).trans HRX.out
              have hrz9 := (Below.block hx9 w.heap.size (by omega)).trans HRZ.out
              have fz0 := frozen_blk hrz9 0
              have fz1 := frozen_blk hrz9 1
              have fz2 := frozen_blk hrz9 2
              have fz3 := frozen_blk hrz9 3
              have x0 := Ext.cellS hx9 cx0
              have x1 := Ext.cellS hx9 cx1
              have x2 := Ext.cellS hx9 cx2
              have x3 := Ext.cellS hx9 cx3
              have z0 := (cell_of_row _ _ _ _ _ _ hrz9 : w9.cell? ⟨w.heap.size, 0, none⟩ = _).trans rfl
              have z1 := (cell_of_row _ _ _ _ _ _ hrz9 : w9.cell? ⟨w.heap.size, 1, none⟩ = _).trans rfl
              have z2 := (cell_of_row _ _ _ _ _ _ hrz9 : w9.cell? ⟨w.heap.size, 2, none⟩ = _).trans rfl
              have z3 := (cell_of_row _ _ _ _ _ _ hrz9 : w9.cell? ⟨w.heap.size, 3, none⟩ = _).trans rfl
              have HRZ9 := hid hrz9
              clear hrx9 hrz9 hx9
              clear cbad cC0 cx0 cx1 cx2 cx3
              go_wp2_with fail
              obtain ⟨q0, q1, q2, q3⟩ := four_cells (v0 := .string s0) (v1 := .string k0) (v2 := .int .i64 (f0 : Int)) (v3 := .slice ea ES.length ec) HRZ9.out
              refine bodyPost_ret (v := .tuple #[.agg #[.string s0, .string k0, .int .i64 (f0 : Int), .slice ea ES.length ec], .int .i64 0]) (by simp [results, Try.results34, go_sem, q0, q1, q2, q3]) rfl ?_
              refine ⟨fun h => absurd (by rw [HBF.out]) h, fun _ => ?_, Below.trans (HX.out.trans HX9.out) below_four⟩
              rw [HBF.out]
              refine ⟨.slice ea ES.length ec, rfl, ?_⟩
              refine ((HOWN.out.rd.ext HX9.out).kept (keep_four (Keep.refl _ w9) (fun e => ?_))).mono (fun k hk _ => ?_)
              · rcases e with e | e
                · have := (HSS.out _ e).1; omega
                · have := (HOWN.out.lt _ e).1; omega
              · rcases hk with hk | hk
                · have := (HSS.out _ hk).1; omega
                · have := (HOWN.out.lt _ hk).1; omega
            · have HBF := hid (HBD2.out.trans (if_pos (by simp [hq])))
              have hq1 : (B == l) = false := by simpa using hq
              have hq2 : (B != l) = true := by simpa using hq
              go_wp2_with fail
              refine (RPutBatch_any wo _ s0 k0 (f0 : Int) (.slice ea ES.length ec) ES (by omega) (by omega) ⟨by omega, by omega⟩ HOWN.out.rd).mono ?_
              intro e w9 hp
              obtain ⟨h1, -, hx9⟩ := hp
              obtain ⟨v9, rfl, ho9⟩ := h1 HP0.out
              rw [HP1.out] at ho9
              have hx9 := Ext.of hx9
              obtain ⟨a9, c9, rfl⟩ := OwnB.slice ho9
              have hr9 := run_strB (rdB_own ho9)
              have hrl9 := run_strB (HV.out.ext (HX.out.trans hx9))
              have HX9 := hid hx9
              clear h1 ho9
              have hrx9 := (Below.block hx9 gx hgxl).trans HRX.out
              have hrz9 := (Below.block hx9 w.heap.size (by omega)).trans HRZ.out
              have fz0 := frozen_blk hrz9 0
              have fz1 := frozen_blk hrz9 1
              have fz2 := frozen_blk hrz9 2
              have fz3 := frozen_blk hrz9 3
              have x0 := Ext.cellS hx9 cx0
              have x1 := Ext.cellS hx9 cx1
              have x2 := Ext.cellS hx9 cx2
              have x3 := Ext.cellS hx9 cx3
              have z0 := (cell_of_row _ _ _ _ _ _ hrz9 : w9.cell? ⟨w.heap.size, 0, none⟩ = _).trans rfl
              have z1 := (cell_of_row _ _ _ _ _ _ hrz9 : w9.cell? ⟨w.heap.size, 1, none⟩ = _).trans rfl
              have z2 := (cell_of_row _ _ _ _ _ _ hrz9 : w9.cell? ⟨w.heap.size, 2, none⟩ = _).trans rfl
              have z3 := (cell_of_row _ _ _ _ _ _ hrz9 : w9.cell? ⟨w.heap.size, 3, none⟩ = _).trans rfl
              have HRZ9 := hid hrz9
              clear hrx9 hrz9 hx9
              clear cbad cC0 cx0 cx1 cx2 cx3
              go_wp2_with fail
              obtain ⟨q0, q1, q2, q3⟩ := four_cells (v0 := .string ⟨#[]⟩) (v1 := .string ⟨#[]⟩) (v2 := .int .i64 0) (v3 := .slice none 0 0) HRZ9.out
              refine bodyPost_ret (v := .tuple #[.agg #[.string ⟨#[]⟩, .string ⟨#[]⟩, .int .i64 0, .slice none 0 0], .int .i64 11]) (by simp [results, Try.results34, go_sem, q0, q1, q2, q3]) rfl ?_
              refine ⟨fun _ => rfl, fun h => absurd h (by rw [HBF.out]; decide), ?_⟩
              exact Below.trans (HX.out.trans HX9.out) below_four
          · have HBF := hid (HBD2.out.trans (if_pos (by simp [hp0])))
            have tp : ((pc : Int) == 0) = false := by rw [beq_eq_false_iff_ne]; omega
            have tp2 : ((pc : Int) != 0) = true := by rw [bne_iff_ne]; omega
            go_wp2_with fail
            refine (RPutBatch_any wo _ s0 k0 (f0 : Int) (.slice ea ES.length ec) ES (by omega) (by omega) ⟨by omega, by omega⟩ HOWN.out.rd).mono ?_
            intro e w9 hp
            obtain ⟨-, h2, hx9⟩ := hp
            obtain rfl := h2 (by rw [HP0.out]; exact hp0)
            rw [HP0.out]
            have hx9 := Ext.of hx9
            have HX9 := hid hx9
            clear h2
            have hrx9 := (Below.block hx9 gx hgxl).trans HRX.out
            have hrz9 := (Below.block hx9 w.heap.size (by omega)).trans HRZ.out
            have fz0 := frozen_blk hrz9 0
            have fz1 := frozen_blk hrz9 1
            have fz2 := frozen_blk hrz9 2
            have fz3 := frozen_blk hrz9 3
            have x0 := Ext.cellS hx9 cx0
            have x1 := Ext.cellS hx9 cx1
            have x2 := Ext.cellS hx9 cx2
            have x3 := Ext.cellS hx9 cx3
            have z0 := (cell_of_row _ _ _ _ _ _ hrz9 : w9.cell? ⟨w.heap.size, 0, none⟩ = _).trans rfl
            have z1 := (cell_of_row _ _ _ _ _ _ hrz9 : w9.cell? ⟨w.heap.size, 1, none⟩ = _).trans rfl
            have z2 := (cell_of_row _ _ _ _ _ _ hrz9 : w9.cell? ⟨w.heap.size, 2, none⟩ = _).trans rfl
            have z3 := (cell_of_row _ _ _ _ _ _ hrz9 : w9.cell? ⟨w.heap.size, 3, none⟩ = _).trans rfl
            have HRZ9 := hid hrz9
            clear hrx9 hrz9 hx9
            clear cbad cC0 cx0 cx1 cx2 cx3
            go_wp2_with fail
            obtain ⟨q0, q1, q2, q3⟩ := four_cells (v0 := .string ⟨#[]⟩) (v1 := .string ⟨#[]⟩) (v2 := .int .i64 0) (v3 := .slice none 0 0) HRZ9.out
            refine bodyPost_ret (v := .tuple #[.agg #[.string ⟨#[]⟩, .string ⟨#[]⟩, .int .i64 0, .slice none 0 0], .int .i64 11]) (by simp [results, Try.results34, go_sem, q0, q1, q2, q3]) rfl ?_
            refine ⟨fun _ => rfl, fun h => absurd h (by rw [HBF.out]; decide), ?_⟩
            exact Below.trans (HX.out.trans HX9.out) below_four
end Go.Proofs.Ythobhkmphjnlaaa
