/- cartularylaw02.do: a call on both. -/
import Derived.Test.YtgbiffpnfpdcoaaRb7
namespace Go.Proofs.Ytgbiffpnfpdcoaa
open Go.RowKit Go.Maps
set_option linter.unusedVariables false
set_option linter.unusedSimpArgs false

def DoEnd (w : World) (B M g rg : Nat) (ρ : Nat → Option DRol) (R : Nat → Prop) (e : Ending) (w' : World) : Prop := e = .returned (.bool true) ∧ ∃ d', PrNext w w' B (M + 3) g rg ρ R d'
def cV (kind : Int) (two : Bool) (n fill : Int) (head : ByteArray) (pv : Value) : Value := .agg #[.int .i64 kind, .bool two, .int .i64 n, .int .i64 fill, .string head, pv]
/-- a row of bytes that is written over -/
theorem bvs_some {w : World} {k i : Nat} {b : List UInt8} {t : TypeId} (h : w.heap[k]? = some (.cells (bvs b).toArray t (0, 0))) (hi : i < b.length) : ∃ x, w.cell? ⟨k, i, none⟩ = some x := by
  refine ⟨_, row_some h (i := i) (by simp [bvs_length, hi])⟩

theorem row_some' {w : World} {g i : Nat} {cur : Array Value} {t : TypeId} {f : Nat × Nat} (h : w.heap[g]? = some (.cells cur t f)) (hi : i < cur.size) : w.cell? ⟨g, i, none⟩ = some cur[i] := by
  rw [cell_of_row _ _ _ _ _ _ h, Array.getElem?_eq_getElem hi]
/-- the bytes of a string, as a new row that may be written over -/
theorem strBytes2 (w : World) (s : ByteArray) (hs : s.size ≤ 9223372036854775807) : ∃ cap w' cur f, (convert 9 22 (.string s)).run Try.prog w = .ok (.slice (some ⟨w.heap.size, 0, none⟩) s.size cap) w' ∧ RdB w' (.slice (some ⟨w.heap.size, 0, none⟩) s.size cap) s.data.toList ∧ Ext w w' ∧
    w'.heap[w.heap.size]? = some (.cells cur 5 f) ∧ s.size ≤ cur.size ∧ ∀ (w2 : World) cur2, w2.heap[w.heap.size]? = some (.cells cur2 5 f) → ∀ i, i < s.size → w2.frozen? ⟨w.heap.size, i, none⟩ = false := by
  have h1 := Go.run_bytes_of_string (P := Try.prog) w 9 22 5 s Try.underlying9 Try.underlying22 Try.underlying5
  have hz : s.data.toList.length = s.size := by rw [Lib.size_eq]
  have hr : (w.drew.alloc (.cells (bytesRow s (grownCap w s.size 0 5)) 5 ((bytesRow s (grownCap w s.size 0 5)).size, (bytesRow s (grownCap w s.size 0 5)).size + 1))).heap[w.heap.size]? = some _ := heap_alloc_new w.drew (.cells (bytesRow s (grownCap w s.size 0 5)) 5 ((bytesRow s (grownCap w s.size 0 5)).size, (bytesRow s (grownCap w s.size 0 5)).size + 1))
  have hsz : s.size ≤ (bytesRow s (grownCap w s.size 0 5)).size := by
    unfold bytesRow
    simp only [Array.size_append, Array.size_map, Array.size_replicate]
    have : s.size = s.data.size := rfl
    omega
  refine ⟨_, _, _, _, h1, ?_, ((Ext.refl w).drew).alloc _, hr, hsz, fun w2 cur2 h2 i hi => ?_⟩
  · refine ⟨_, _, by rw [hz], ?_, grownCap_le_maxLen _ _ _ _ (by unfold maxLen; omega), by rw [bvs_length, Nat.mul_one], fun _ => ⟨w.heap.size, 0, rfl, by simp, fun j hj => ?_⟩⟩
    · rw [hz]; exact grownCap_ge _ _ _ _
    · have hj' : j < s.data.size := by rw [Nat.mul_one, hz] at hj; exact hj
      rw [Nat.zero_add, cell_of_row _ _ _ _ _ _ hr, bytesRow_at s _ j hj', bvs_get _ j (by rw [hz]; exact hj')]
      simp
  · simp only [World.frozen?, h2]
    simp; omega

set_option maxRecDepth 100000 in
set_option maxHeartbeats 4000000 in
theorem do1_any {w : World} {B M g rg : Nat} {ρ : Nat → Option DRol} {R : Nat → Prop} {d : Dv} (h : Pr w B M g rg ρ R d) (hM : M ≤ 900000) (two : Bool) (n fill : Int) (hn : -9223372036854775808 ≤ n ∧ n ≤ 9223372036854775807) (head : ByteArray) (pa : Option Addr) (pl pc : Nat) :
    Calls Try.prog 40 #[.pointer (some ⟨g, 0, none⟩), .pointer (some ⟨rg, 0, none⟩), .agg #[.int .i64 1, .bool two, .int .i64 n, .int .i64 fill, .string head, .slice pa pl pc]] w (DoEnd w B M g rg ρ R) := by
  obtain ⟨sv, pv, rf, P, hr, hR⟩ := h.ref
  have H := hid h
  have HRR := hid hR
  have HR := hid hr
  have HN := hid hn
  have hbx : ρ w.heap.size = none := by
    by_cases e : ρ w.heap.size = none
    · exact e
    · have := h.dv.lt' e; omega
  have hbx2 : ¬ RBl rg sv pv w.heap.size := fun e => by have := (hr.lt e).2; omega
  have HBX := hid hbx
  have hgg : w.heap.size ≠ g := by
    intro e; rw [e] at hbx
    obtain ⟨_, _, _, hp⟩ := h.dv
    rw [hp.rg] at hbx; cases hbx
  have HBX2 := hid hbx2
  have HGG := hid hgg
  have HNG := hid (show ∀ k, ρ k = none → k ≠ g from fun k hk e => by
    rw [e] at hk
    obtain ⟨_, _, _, hp⟩ := h.dv
    rw [hp.rg] at hk; cases hk)
  clear h hr hR hn hbx hbx2 hgg
  go_enter Try.func40, Try.ntmps40
  obtain ⟨wb, hwb⟩ : ∃ wb, wb = w.alloc (.cells #[.int .i64 1, .bool two, .int .i64 n, .int .i64 fill, .string head, .slice pa pl pc] 46) := ⟨_, rfl⟩
  have hxb : Ext w wb := by rw [hwb]; exact (Ext.refl _).alloc _
  have hrb : wb.heap[w.heap.size]? = some (.cells #[.int .i64 1, .bool two, .int .i64 n, .int .i64 fill, .string head, .slice pa pl pc] 46 (0, 0)) := by rw [hwb]; exact heap_alloc_new _ _
  have hzb : wb.heap.size = w.heap.size + 1 := by rw [hwb]; simp
  go_wp2_with fail
  rw [← hwb]
  refine (Read_any wb g ρ M d (H.out.dv.ext hxb) (by omega) n HN.out).mono ?_
  rintro e w1 ⟨hres, hd1, hk1⟩
  have hr1 : RAt w1 B M rg sv pv rf d P := H.out.ref1 HR.out HRR.out ((hxb.keep _).trans (hk1.mono fun k hk _ => HNG.out k hk)) (Ext.refl _)
  have hb1 := row_past1 hk1 hrb HGG.out
  have c2 := (cell_of_row _ _ 2 _ _ _ hb1).trans rfl
  have HXB := hid hxb
  have HRB := hid hrb
  have HK1 := hid hk1
  have HD1 := hid hd1
  have HR1 := hid hr1
  have hs1 := hk1.size
  clear hwb hk1 hd1 hr1 hb1 hrb hxb
  rcases hres with ⟨h1, rfl⟩ | ⟨h1, h2, k, rfl, hk, hrow⟩
  · have HE := hid h1
    clear h1
    go_wp2_with fail
    refine (RRead_any HR1.out (by omega) n HN.out).mono ?_
    rintro e w2 ⟨hres, ⟨rf2, hr2⟩, hk2⟩
    rcases hres with ⟨h3, rfl⟩ | ⟨h3, rfl⟩
    · have HR2 := hid hr2
      have HK2 := hid hk2
      generalize (opF d n 0).1 = code
      have hcv := run_strB (RdB.nil w2)
      clear hr2 hk2 h3
      go_wp2_with fail
      go_loopw [12] (fun u12 wr => u12 = .int .i64 0 ∧ wr = w2) (fun _ _ => 0)
      case atStart => exact ⟨rfl, rfl⟩
      case round =>
        obtain ⟨rfl, rfl⟩ := hrel
        have d1 : decide (true = true) = true := rfl
        go_wp2_with fail
        go_ret
        refine ⟨rfl, _, H.out.next HR.out HRR.out (HD1.out.mono (by omega)) (((HXB.out.keep _).trans (HK1.out.mono fun k hk _ => HNG.out k hk))) (fun k hk => .inl hk) (Ext.refl _) (HR2.out.mono (by omega)) (HK2.out.mono fun k hk _ e => hk (.inl e)) (fun k hk => .inl hk) (Keep.refl _ _)⟩
    · exact absurd h3 HE.out
  · have HROW := hid hrow
    have HKK := hid hk
    have HL := hid h2
    have HE := hid h1
    clear h1 h2 hk hrow
    go_wp2_with fail
    refine (RRead_any HR1.out (by omega) n HN.out).mono ?_
    rintro e w2 ⟨hres, ⟨rf2, hr2⟩, hk2⟩
    rcases hres with ⟨h3, rfl⟩ | ⟨h3, rfl⟩
    · exact absurd HE.out h3
    · have hrk : ¬ k = rg := fun e => by
        have h1 := HKK.out
        have h2 := HR1.out.glt
        have h3 := HR.out.glt
        omega
      have hrow2 := row_past1 hk2 HROW.out hrk
      have hcv := run_strB (row_rdB hrow2 HL.out)
      have HR2 := hid hr2
      have HK2 := hid hk2
      have HROW2 := hid hrow2
      have hbs : bS' (curF d n) = ⟨(curF d n).toArray⟩ := rfl
      rw [hbs]
      generalize curF d n = b at hcv HROW2 HL ⊢
      have hz2 := hk2.size
      have hkb := HKK.out
      clear hr2 hk2 h3 hrow2 HROW hbs
      go_wp2_with fail
      go_loopw [12] (fun u12 wr => ∃ i cur, u12 = .int .i64 (i : Nat) ∧ i ≤ 512 ∧ wr.heap[k]? = some (.cells cur 102 (0, 0)) ∧ 512 ≤ cur.size ∧ Keep (fun j => j ≠ k) w2 wr) (fun u12 _ => 512 - (intOf u12).toNat)
      case atStart => exact ⟨0, _, rfl, by omega, HROW2.out, by have := HL.out; simp [bvs_length, this], Keep.refl _ _⟩
      case round =>
        obtain ⟨i, cur, rfl, hi, hrow, hcs, hkw⟩ := hrel
        have HKW := hid hkw
        have HRW := hid hrow
        by_cases hlt : i < 512
        · have c0 := row_some hrow (i := i) (by omega)
          have f0 := blk_fro hrow i
          have HS := hid (show 512 ≤ (cur.setIfInBounds i (.int .u8 99)).size by simp; exact hcs)
          have i1 : (i : Int) < 512 := by omega
          have hw1 : IntKind.i64.wrap ((i : Int) + 1) = (i : Int) + 1 := by rw [IntKind.wrap_i64]; omega
          generalize cur[i] = old at c0
          clear hrow hkw
          go_wp2_with fail
          exact ⟨⟨i + 1, _, rfl, by omega, blk_set HRW.out _, HS.out, HKW.out.setCell (by simp) _⟩, by simp only [intOf]; omega⟩
        · have i1 : ¬ (i : Int) < 512 := by omega
          have d1 : decide (true = true) = true := rfl
          clear hrow hkw
          go_wp2_with fail
          go_ret
          have hkl : ∀ j, (j < w.heap.size ∨ ρ j ≠ none ∨ RBl rg sv pv j) → j ≠ k := fun j hj e => by
            rcases hj with hj | hj | hj
            · omega
            · have := H.out.dv.lt' hj; omega
            · have := (HR.out.lt hj).2; omega
          refine ⟨rfl, _, H.out.next HR.out HRR.out (HD1.out.mono (by omega)) (((HXB.out.keep _).trans (HK1.out.mono fun k hk _ => HNG.out k hk))) (fun k hk => .inl hk) (Ext.refl _) (HR2.out.mono (by omega)) (HK2.out.mono fun k hk _ e => hk (.inl e)) (fun k hk => .inl hk) (HKW.out.mono fun j hj _ => hkl j hj)⟩
set_option maxRecDepth 100000 in
set_option maxHeartbeats 4000000 in
theorem do3_any {w : World} {B M g rg : Nat} {ρ : Nat → Option DRol} {R : Nat → Prop} {d : Dv} (h : Pr w B M g rg ρ R d) (hM : M ≤ 900000) (two : Bool) (n fill : Int) (hn : -9223372036854775808 ≤ n ∧ n ≤ 9223372036854775807) (head : ByteArray) (pa : Option Addr) (pl pc : Nat) :
    Calls Try.prog 40 #[.pointer (some ⟨g, 0, none⟩), .pointer (some ⟨rg, 0, none⟩), .agg #[.int .i64 3, .bool two, .int .i64 n, .int .i64 fill, .string head, .slice pa pl pc]] w (DoEnd w B M g rg ρ R) := by
  obtain ⟨sv, pv, rf, P, hr, hR⟩ := h.ref
  have H := hid h
  have HRR := hid hR
  have HR := hid hr
  have HN := hid hn
  have hbx : ρ w.heap.size = none := by
    by_cases e : ρ w.heap.size = none
    · exact e
    · have := h.dv.lt' e; omega
  have hbx2 : ¬ RBl rg sv pv w.heap.size := fun e => by have := (hr.lt e).2; omega
  have HBX := hid hbx
  have hgg : w.heap.size ≠ g := by
    intro e; rw [e] at hbx
    obtain ⟨_, _, _, hp⟩ := h.dv
    rw [hp.rg] at hbx; cases hbx
  have HBX2 := hid hbx2
  have HGG := hid hgg
  have HNG := hid (show ∀ k, ρ k = none → k ≠ g from fun k hk e => by
    rw [e] at hk
    obtain ⟨_, _, _, hp⟩ := h.dv
    rw [hp.rg] at hk; cases hk)
  clear h hr hR hn hbx hbx2 hgg
  go_enter Try.func40, Try.ntmps40
  obtain ⟨wb, hwb⟩ : ∃ wb, wb = w.alloc (.cells #[.int .i64 3, .bool two, .int .i64 n, .int .i64 fill, .string head, .slice pa pl pc] 46) := ⟨_, rfl⟩
  have hxb : Ext w wb := by rw [hwb]; exact (Ext.refl _).alloc _
  have hrb : wb.heap[w.heap.size]? = some (.cells #[.int .i64 3, .bool two, .int .i64 n, .int .i64 fill, .string head, .slice pa pl pc] 46 (0, 0)) := by rw [hwb]; exact heap_alloc_new _ _
  have hzb : wb.heap.size = w.heap.size + 1 := by rw [hwb]; simp
  go_wp2_with fail
  rw [← hwb]
  refine (Flush_any wb g ρ M d (H.out.dv.ext hxb) (by omega)).mono ?_
  rintro e w1 ⟨rfl, ρ1, hd1, hk1, hf1⟩
  have hr1 : RAt w1 B M rg sv pv rf d P := H.out.ref1 HR.out HRR.out ((hxb.keep _).trans hk1) (Ext.refl _)
  have HXB := hid hxb
  have HK1 := hid hk1
  have HD1 := hid hd1
  have HR1 := hid hr1
  have HF1 := hid hf1
  clear hwb hk1 hd1 hr1 hrb hxb hf1
  go_wp2_with fail
  refine (RFlush_any HR1.out (by omega)).mono ?_
  rintro e w2 ⟨rfl, ⟨pv2, rf2, P2, hr2, hf2⟩, hk2⟩
  have HR2 := hid hr2
  have HK2 := hid hk2
  have HF2 := hid hf2
  generalize (flushF d).1 = code
  clear hr2 hk2 hf2
  go_wp2_with fail

  go_ret
  refine ⟨by simp, _, H.out.next HR.out HRR.out (HD1.out.mono (by omega)) ((HXB.out.keep _).trans HK1.out) (fun k hk => (HF1.out k hk).imp id (fun h => by omega)) (Ext.refl _) (HR2.out.mono (by omega)) HK2.out (fun k hk => ?_) (Keep.refl _ _)⟩
  rcases hk with hk | hk | hk
  · exact .inl (.inl hk)
  · exact .inl (.inr (.inl hk))
  · rcases HF2.out k hk with h | h
    · exact .inl (.inr (.inr h))
    · exact .inr h

set_option maxRecDepth 100000 in
set_option maxHeartbeats 4000000 in
theorem do6_any {w : World} {B M g rg : Nat} {ρ : Nat → Option DRol} {R : Nat → Prop} {d : Dv} (h : Pr w B M g rg ρ R d) (hM : M ≤ 900000) (two : Bool) (n fill : Int) (hn : -9223372036854775808 ≤ n ∧ n ≤ 9223372036854775807) (head : ByteArray) (pa : Option Addr) (pl pc : Nat) :
    Calls Try.prog 40 #[.pointer (some ⟨g, 0, none⟩), .pointer (some ⟨rg, 0, none⟩), .agg #[.int .i64 6, .bool two, .int .i64 n, .int .i64 fill, .string head, .slice pa pl pc]] w (DoEnd w B M g rg ρ R) := by
  obtain ⟨sv, pv, rf, P, hr, hR⟩ := h.ref
  have H := hid h
  have HRR := hid hR
  have HR := hid hr
  have HN := hid hn
  have hbx : ρ w.heap.size = none := by
    by_cases e : ρ w.heap.size = none
    · exact e
    · have := h.dv.lt' e; omega
  have hbx2 : ¬ RBl rg sv pv w.heap.size := fun e => by have := (hr.lt e).2; omega
  have HBX := hid hbx
  have hgg : w.heap.size ≠ g := by
    intro e; rw [e] at hbx
    obtain ⟨_, _, _, hp⟩ := h.dv
    rw [hp.rg] at hbx; cases hbx
  have HBX2 := hid hbx2
  have HGG := hid hgg
  have HNG := hid (show ∀ k, ρ k = none → k ≠ g from fun k hk e => by
    rw [e] at hk
    obtain ⟨_, _, _, hp⟩ := h.dv
    rw [hp.rg] at hk; cases hk)
  clear h hr hR hn hbx hbx2 hgg
  go_enter Try.func40, Try.ntmps40
  obtain ⟨wb, hwb⟩ : ∃ wb, wb = w.alloc (.cells #[.int .i64 6, .bool two, .int .i64 n, .int .i64 fill, .string head, .slice pa pl pc] 46) := ⟨_, rfl⟩
  have hxb : Ext w wb := by rw [hwb]; exact (Ext.refl _).alloc _
  have hrb : wb.heap[w.heap.size]? = some (.cells #[.int .i64 6, .bool two, .int .i64 n, .int .i64 fill, .string head, .slice pa pl pc] 46 (0, 0)) := by rw [hwb]; exact heap_alloc_new _ _
  have hzb : wb.heap.size = w.heap.size + 1 := by rw [hwb]; simp
  go_wp2_with fail
  rw [← hwb]
  refine (asked02_any (H.out.ext hxb) (by omega)).mono ?_
  rintro e w1 ⟨rfl, hx1⟩
  have HX1 := hid (hxb.trans hx1)
  clear hwb hxb hx1 hrb
  go_wp2_with fail
  go_ret
  exact ⟨rfl, _, H.out.same (by omega) HX1.out⟩

set_option maxRecDepth 100000 in
set_option maxHeartbeats 4000000 in
theorem do0_any {w : World} {B M g rg : Nat} {ρ : Nat → Option DRol} {R : Nat → Prop} {d : Dv} (h : Pr w B M g rg ρ R d) (hM : M ≤ 900000) (two : Bool) (n fill : Int) (hn : -9223372036854775808 ≤ n ∧ n ≤ 9223372036854775807) (kd : Int) (head : ByteArray) (pa : Option Addr) (pl pc : Nat) (hk1 : ¬ kd = 1) (hk2 : ¬ kd = 2) (hk3 : ¬ kd = 3) (hk4 : ¬ kd = 4) (hk5 : ¬ kd = 5) (hk6 : ¬ kd = 6) (hk8 : ¬ kd = 8) :
    Calls Try.prog 40 #[.pointer (some ⟨g, 0, none⟩), .pointer (some ⟨rg, 0, none⟩), .agg #[.int .i64 kd, .bool two, .int .i64 n, .int .i64 fill, .string head, .slice pa pl pc]] w (DoEnd w B M g rg ρ R) := by
  obtain ⟨sv, pv, rf, P, hr, hR⟩ := h.ref
  have H := hid h
  have HRR := hid hR
  have HR := hid hr
  have HN := hid hn
  have hbx : ρ w.heap.size = none := by
    by_cases e : ρ w.heap.size = none
    · exact e
    · have := h.dv.lt' e; omega
  have hbx2 : ¬ RBl rg sv pv w.heap.size := fun e => by have := (hr.lt e).2; omega
  have HBX := hid hbx
  have hgg : w.heap.size ≠ g := by
    intro e; rw [e] at hbx
    obtain ⟨_, _, _, hp⟩ := h.dv
    rw [hp.rg] at hbx; cases hbx
  have HBX2 := hid hbx2
  have HGG := hid hgg
  have HNG := hid (show ∀ k, ρ k = none → k ≠ g from fun k hk e => by
    rw [e] at hk
    obtain ⟨_, _, _, hp⟩ := h.dv
    rw [hp.rg] at hk; cases hk)
  clear h hr hR hn hbx hbx2 hgg
  go_enter Try.func40, Try.ntmps40
  obtain ⟨wb, hwb⟩ : ∃ wb, wb = w.alloc (.cells #[.int .i64 kd, .bool two, .int .i64 n, .int .i64 fill, .string head, .slice pa pl pc] 46) := ⟨_, rfl⟩
  have hxb : Ext w wb := by rw [hwb]; exact (Ext.refl _).alloc _
  have hrb : wb.heap[w.heap.size]? = some (.cells #[.int .i64 kd, .bool two, .int .i64 n, .int .i64 fill, .string head, .slice pa pl pc] 46 (0, 0)) := by rw [hwb]; exact heap_alloc_new _ _
  have hzb : wb.heap.size = w.heap.size + 1 := by rw [hwb]; simp
  go_wp2_with fail
  go_ret
  exact ⟨rfl, _, H.out.same (by omega) (by (· repeat (first | (with_reducible assumption) | exact Ext.refl _ | refine Ext.alloc ?_ _ | refine Ext.drew ?_ | refine Ext.drewN ?_ _ | (apply Ext.snart; (with_reducible assumption)))))⟩

set_option maxRecDepth 100000 in
set_option maxHeartbeats 4000000 in
theorem do4_any {w : World} {B M g rg : Nat} {ρ : Nat → Option DRol} {R : Nat → Prop} {d : Dv} (h : Pr w B M g rg ρ R d) (hM : M ≤ 900000) (two : Bool) (n fill : Int) (hn : -9223372036854775808 ≤ n ∧ n ≤ 9223372036854775807) (head : ByteArray) (pa : Option Addr) (pl pc : Nat) :
    Calls Try.prog 40 #[.pointer (some ⟨g, 0, none⟩), .pointer (some ⟨rg, 0, none⟩), .agg #[.int .i64 4, .bool two, .int .i64 n, .int .i64 fill, .string head, .slice pa pl pc]] w (DoEnd w B M g rg ρ R) := by
  obtain ⟨sv, pv, rf, P, hr, hR⟩ := h.ref
  have H := hid h
  have HRR := hid hR
  have HR := hid hr
  have HN := hid hn
  have hbx : ρ w.heap.size = none := by
    by_cases e : ρ w.heap.size = none
    · exact e
    · have := h.dv.lt' e; omega
  have hbx2 : ¬ RBl rg sv pv w.heap.size := fun e => by have := (hr.lt e).2; omega
  have HBX := hid hbx
  have hgg : w.heap.size ≠ g := by
    intro e; rw [e] at hbx
    obtain ⟨_, _, _, hp⟩ := h.dv
    rw [hp.rg] at hbx; cases hbx
  have HBX2 := hid hbx2
  have HGG := hid hgg
  have HNG := hid (show ∀ k, ρ k = none → k ≠ g from fun k hk e => by
    rw [e] at hk
    obtain ⟨_, _, _, hp⟩ := h.dv
    rw [hp.rg] at hk; cases hk)
  clear h hr hR hn hbx hbx2 hgg
  go_enter Try.func40, Try.ntmps40
  obtain ⟨wb, hwb⟩ : ∃ wb, wb = w.alloc (.cells #[.int .i64 4, .bool two, .int .i64 n, .int .i64 fill, .string head, .slice pa pl pc] 46) := ⟨_, rfl⟩
  have hxb : Ext w wb := by rw [hwb]; exact (Ext.refl _).alloc _
  have hrb : wb.heap[w.heap.size]? = some (.cells #[.int .i64 4, .bool two, .int .i64 n, .int .i64 fill, .string head, .slice pa pl pc] 46 (0, 0)) := by rw [hwb]; exact heap_alloc_new _ _
  have hzb : wb.heap.size = w.heap.size + 1 := by rw [hwb]; simp
  have c2 := (cell_of_row _ _ 2 _ _ _ hrb).trans rfl
  have HXB := hid hxb
  have HRB := hid hrb
  have HDV := hid (H.out.dv.ext hxb)
  clear hxb hrb
  go_wp2_with fail
  rw [← hwb]
  clear hwb
  have hxd : Ext wb wb.drew := by (· repeat (first | (with_reducible assumption) | exact Ext.refl _ | refine Ext.alloc ?_ _ | refine Ext.drew ?_ | refine Ext.drewN ?_ _ | (apply Ext.snart; (with_reducible assumption))))
  have HXD := hid hxd
  refine wp_region_T (fun w' => w'.cell? ⟨w.heap.size, 2, none⟩ = some (.int .i64 n)) [] (by kernel_rfl) (Ext.cellS hxd c2) (fun hS => ?_)
  clear hxd
  (refine wpAnyT_take (i := 0) (v := ?_) rfl (by kernel_rfl) (by kernel_rfl) (by kernel_rfl) (by kernel_rfl) (fun _ _ _ h => h) (Or.inl ⟨by rfl, ?_⟩) (by assumption) ?_; rotate_left; ((intro wS hSw; (try dsimp only at hSw); (try simp only [List.getElem_toArray, List.getElem_cons_zero, List.getElem_cons_succ]); go_simp); (try with_reducible rfl)); (try simp only [Act.put, List.getElem_toArray, List.getElem_cons_zero, List.getElem_cons_succ, List.setIfInBounds_toArray, List.set_cons_zero, List.set_cons_succ]))
  (refine wpAnyT_take (i := 1) (v := ?_) rfl (by kernel_rfl) (by kernel_rfl) (by kernel_rfl) (by kernel_rfl) (fun _ _ _ h => h) (Or.inl ⟨by rfl, ?_⟩) (by assumption) ?_; rotate_left; ((intro wS hSw; (try dsimp only at hSw); (try simp only [List.getElem_toArray, List.getElem_cons_zero, List.getElem_cons_succ]); go_simp); (try with_reducible rfl)); (try simp only [Act.put, List.getElem_toArray, List.getElem_cons_zero, List.getElem_cons_succ, List.setIfInBounds_toArray, List.set_cons_zero, List.set_cons_succ]))
  (refine wpAnyT_take (i := 2) (v := ?_) rfl (by kernel_rfl) (by kernel_rfl) (by kernel_rfl) (by kernel_rfl) (fun _ _ _ h => h) (Or.inl ⟨by rfl, ?_⟩) (by assumption) ?_; rotate_left; ((intro wS hSw; (try dsimp only at hSw); (try simp only [List.getElem_toArray, List.getElem_cons_zero, List.getElem_cons_succ]); go_simp); (try with_reducible rfl)); (try simp only [Act.put, List.getElem_toArray, List.getElem_cons_zero, List.getElem_cons_succ, List.setIfInBounds_toArray, List.set_cons_zero, List.set_cons_succ]))
  (refine wpAnyT_take (i := 4) (v := ?_) rfl (by kernel_rfl) (by kernel_rfl) (by kernel_rfl) (by kernel_rfl) (fun _ _ _ h => h) (Or.inl ⟨by rfl, ?_⟩) (by assumption) ?_; rotate_left; ((intro wS hSw; (try dsimp only at hSw); (try simp only [List.getElem_toArray, List.getElem_cons_zero, List.getElem_cons_succ]); go_simp); (try with_reducible rfl)); (try simp only [Act.put, List.getElem_toArray, List.getElem_cons_zero, List.getElem_cons_succ, List.setIfInBounds_toArray, List.set_cons_zero, List.set_cons_succ]))
  (refine wpAnyT_take (i := 5) (v := ?_) rfl (by kernel_rfl) (by kernel_rfl) (by kernel_rfl) (by kernel_rfl) (fun _ _ _ h => h) (Or.inl ⟨by rfl, ?_⟩) (by assumption) ?_; rotate_left; ((intro wS hSw; (try dsimp only at hSw); (try simp only [List.getElem_toArray, List.getElem_cons_zero, List.getElem_cons_succ]); go_simp); (try with_reducible rfl)); (try simp only [Act.put, List.getElem_toArray, List.getElem_cons_zero, List.getElem_cons_succ, List.setIfInBounds_toArray, List.set_cons_zero, List.set_cons_succ]))
  (refine wpAnyT_take (i := 6) (v := ?_) rfl (by kernel_rfl) (by kernel_rfl) (by kernel_rfl) (by kernel_rfl) (fun _ _ _ h => h) (Or.inl ⟨by rfl, ?_⟩) (by assumption) ?_; rotate_left; ((intro wS hSw; (try dsimp only at hSw); (try simp only [List.getElem_toArray, List.getElem_cons_zero, List.getElem_cons_succ]); go_simp); (try with_reducible rfl)); (try simp only [Act.put, List.getElem_toArray, List.getElem_cons_zero, List.getElem_cons_succ, List.setIfInBounds_toArray, List.set_cons_zero, List.set_cons_succ]))
  refine wpAnyT_all (rs := [3]) (by kernel_rfl) (by decide) (AllT.consS rfl (fun K hK => ?_) AllT.nil)
  go_simp
  go_at_call 34
  refine (Fuse_any (HDV.out.ext HXD.out) n HN.out).mono ?_
  rintro e w1 ⟨rfl, hd1, hk1⟩
  have hr1 : RAt w1 B M rg sv pv rf d P := H.out.ref1 HR.out HRR.out (((HXB.out.trans HXD.out).keep _).trans (hk1.mono fun k hk _ => HNG.out k hk)) (Ext.refl _)
  have HK1 := hid hk1
  have HD1 := hid hd1
  have HR1 := hid hr1
  have hcc : w1.cell? ⟨w.heap.size, 2, none⟩ = some (.int .i64 n) := hk1.cell hS HGG.out
  clear hk1 hd1 hr1
  (refine hK.out _ _ (hcc) (fun hS => ?_); clear hK K)
  refine wpAnyT_all (rs := [7]) (by kernel_rfl) (by decide) (AllT.consS rfl (fun K hK => ?_) AllT.nil)
  go_simp
  go_at_call 63
  refine (SetFuse_any HR1.out n HN.out).mono ?_
  rintro e w2 ⟨rfl, ⟨rf2, hr2⟩, hk2⟩
  have HR2 := hid hr2
  have HK2 := hid hk2
  have hcc2 : w2.cell? ⟨w.heap.size, 2, none⟩ = some (.int .i64 n) := hk2.cell hS (fun e => HBX2.out (.inl e))
  clear hr2 hk2
  (refine hK.out _ _ (hcc2) (fun hS => ?_); clear hK K)
  generalize (fuseF d n).1 = code
  refine wpAnyT_all (rs := [8]) (by kernel_rfl) (by decide) (AllT.consS rfl (fun K hK => ?_) AllT.nil)
  go_simp
  (refine hK.out _ _ (hS) (fun hS => ?_); clear hK K)
  refine wpAnyT_all (rs := [9]) (by kernel_rfl) (by decide) (AllT.consS rfl (fun K hK => ?_) AllT.nil)
  go_simp
  (refine hK.out _ _ (hS) (fun hS => ?_); clear hK K)
  refine wpAnyT_done (by kernel_rfl) (NoPanic.normal ?_) _
  go_wp2_with fail
  go_ret
  exact ⟨by simp, _, H.out.next HR.out HRR.out (HD1.out.mono (by omega)) ((((HXB.out.trans HXD.out).keep _).trans (HK1.out.mono fun k hk _ => HNG.out k hk))) (fun k hk => .inl hk) (Ext.refl _) (HR2.out.mono (by omega)) (HK2.out.mono fun k hk _ e => hk (.inl e)) (fun k hk => .inl hk) (Keep.refl _ _)⟩

set_option maxRecDepth 100000 in
set_option maxHeartbeats 4000000 in
theorem do2_any {w : World} {B M g rg : Nat} {ρ : Nat → Option DRol} {R : Nat → Prop} {d : Dv} (h : Pr w B M g rg ρ R d) (hM : M ≤ 900000) (two : Bool) (n fill : Int) (hn : -9223372036854775808 ≤ n ∧ n ≤ 9223372036854775807) (hf : -9223372036854775808 ≤ fill ∧ fill ≤ 9223372036854775807) (head : ByteArray) (pa : Option Addr) (pl pc : Nat) :
    Calls Try.prog 40 #[.pointer (some ⟨g, 0, none⟩), .pointer (some ⟨rg, 0, none⟩), .agg #[.int .i64 2, .bool two, .int .i64 n, .int .i64 fill, .string head, .slice pa pl pc]] w (DoEnd w B M g rg ρ R) := by
  obtain ⟨sv, pv, rf, P, hr, hR⟩ := h.ref
  have H := hid h
  have HRR := hid hR
  have HR := hid hr
  have HN := hid hn
  have hbx : ρ w.heap.size = none := by
    by_cases e : ρ w.heap.size = none
    · exact e
    · have := h.dv.lt' e; omega
  have hbx2 : ¬ RBl rg sv pv w.heap.size := fun e => by have := (hr.lt e).2; omega
  have HBX := hid hbx
  have hgg : w.heap.size ≠ g := by
    intro e; rw [e] at hbx
    obtain ⟨_, _, _, hp⟩ := h.dv
    rw [hp.rg] at hbx; cases hbx
  have HBX2 := hid hbx2
  have HGG := hid hgg
  have HNG := hid (show ∀ k, ρ k = none → k ≠ g from fun k hk e => by
    rw [e] at hk
    obtain ⟨_, _, _, hp⟩ := h.dv
    rw [hp.rg] at hk; cases hk)
  clear h hr hR hn hbx hbx2 hgg
  go_enter Try.func40, Try.ntmps40
  obtain ⟨wb, hwb⟩ : ∃ wb, wb = w.alloc (.cells #[.int .i64 2, .bool two, .int .i64 n, .int .i64 fill, .string head, .slice pa pl pc] 46) := ⟨_, rfl⟩
  have hxb : Ext w wb := by rw [hwb]; exact (Ext.refl _).alloc _
  have hrb : wb.heap[w.heap.size]? = some (.cells #[.int .i64 2, .bool two, .int .i64 n, .int .i64 fill, .string head, .slice pa pl pc] 46 (0, 0)) := by rw [hwb]; exact heap_alloc_new _ _
  have hzb : wb.heap.size = w.heap.size + 1 := by rw [hwb]; simp
  have hl0 : (blockL fill head).length = 512 := blockL_len _ _
  go_wp2_with fail
  rw [← hwb]
  have HZB := hid hzb
  clear hzb
  refine (Block_any wb fill hf head).mono ?_
  rintro e w0 ⟨rfl, hr0, hx0⟩
  have hz0 := hx0.size
  have hx0' := hxb.trans hx0
  have HX0 := hid hx0'
  have HRB := hid (row_ext hx0 hrb)
  have HL0 := hid hl0
  generalize blockL fill head = data at hr0 HL0
  have hz3 := HZB.out
  have hbl0 : ρ wb.heap.size = none := by
    by_cases e : ρ wb.heap.size = none
    · exact e
    · have := H.out.dv.lt' e; omega
  have hbl1 : ¬ RBl rg sv pv wb.heap.size := fun e => by have := (HR.out.lt e).2; omega
  have HBL0 := hid hbl0
  have HBL1 := hid hbl1
  have HR0 := hid hr0
  have hlt0 : wb.heap.size < w0.heap.size := (Array.getElem?_eq_some_iff.1 hr0).1
  have c0 := (cell_of_row _ _ 0 _ _ _ HRB.out).trans rfl
  have c2 := (cell_of_row _ _ 2 _ _ _ HRB.out).trans rfl
  clear hwb hxb hrb hx0 hx0' hr0 hl0 hbl0 hbl1 hf hz3
  go_wp2_with fail
  refine (Write_any w0 g ρ M d (H.out.dv.ext HX0.out) (by omega) n HN.out _ data (row_rdB HR0.out HL0.out) (fun k hk => by simp only [Value.ownBlock, Option.some.injEq] at hk; rw [← hk]; exact HBL0.out)).mono ?_
  rintro e w1 ⟨rfl, ρ1, hd1, hk1, hf1⟩
  have hr1 : RAt w1 B M rg sv pv rf d P := H.out.ref1 HR.out HRR.out ((HX0.out.keep _).trans hk1) (Ext.refl _)
  have hz1 := hk1.size
  have HRW1 := hid (row_past hk1 HR0.out HBL0.out)
  have c2 := (cell_of_row _ _ 2 _ _ _ (row_past hk1 HRB.out HBX.out)).trans rfl
  have HK1 := hid hk1
  have HD1 := hid hd1
  have HF1 := hid hf1
  have HR1 := hid hr1
  clear hk1 hd1 hf1 hr1
  go_wp2_with fail
  refine (RPut_any HR1.out (by omega) n HN.out _ data (row_rdB HRW1.out HL0.out) (fun k hk => by simp only [Value.ownBlock, Option.some.injEq] at hk; rw [← hk]; exact HBL1.out)).mono ?_
  rintro e w2 ⟨rfl, ⟨pv2, rf2, P2, hr2, hf2⟩, hk2⟩
  have hrow2 : w2.heap[wb.heap.size]? = some (.cells (bvs data).toArray 5 (0, 0)) := (hk2.block _ HBL1.out (by omega)).trans HRW1.out
  have hz2 := hk2.size
  have HROW2 := hid hrow2
  have HR2 := hid hr2
  have HK2 := hid hk2
  have HF2 := hid hf2
  obtain ⟨wd, hwd⟩ : ∃ wd, writeF d n data = wd := ⟨_, rfl⟩
  rw [hwd] at HD1 HR2 ⊢
  obtain ⟨code, d'⟩ := wd
  dsimp only at HD1 HR2 ⊢
  obtain ⟨k, hkb⟩ : ∃ k, k = wb.heap.size := ⟨_, rfl⟩
  rw [← hkb] at HROW2 ⊢
  have hkw : w.heap.size ≤ k := by have := HZB.out; omega
  have HKL := hid (show k < w0.heap.size by omega)
  have HKB := hid hkb
  clear hkb hlt0
  clear hrow2 hr2 hk2 hf2 hwd
  go_wp2_with fail
  go_loopw [16] (fun u16 wr => ∃ i cur, u16 = .int .i64 (i : Nat) ∧ i ≤ 512 ∧ wr.heap[k]? = some (.cells cur 5 (0, 0)) ∧ 512 ≤ cur.size ∧ Keep (fun j => j ≠ k) w2 wr) (fun u16 _ => 512 - (intOf u16).toNat)
  case atStart => exact ⟨0, _, rfl, by omega, HROW2.out, by have := HL0.out; simp [bvs_length, this], Keep.refl _ _⟩
  case round =>
    obtain ⟨i, cur, rfl, hi, hrow, hcs, hkw'⟩ := hrel
    have HKW := hid hkw'
    have HRW := hid hrow
    by_cases hlt : i < 512
    · have c0 := row_some hrow (i := i) (by omega)
      have f0 := blk_fro hrow i
      have HS := hid (show 512 ≤ (cur.setIfInBounds i (.int .u8 98)).size by simp; exact hcs)
      have i1 : (i : Int) < 512 := by omega
      have hw1 : IntKind.i64.wrap ((i : Int) + 1) = (i : Int) + 1 := by rw [IntKind.wrap_i64]; omega
      generalize cur[i] = old at c0
      clear hrow hkw'
      go_wp2_with fail
      exact ⟨⟨i + 1, _, rfl, by omega, blk_set HRW.out _, HS.out, HKW.out.setCell (by simp) _⟩, by simp only [intOf]; omega⟩
    · have i1 : ¬ (i : Int) < 512 := by omega
      clear hrow hkw'
      go_wp2_with fail
      go_ret
      have hnk : ρ1 k = none := by
        by_cases e : ρ1 k = none
        · exact e
        · rcases HF1.out k e with h | h
          · rw [HKB.out, HBL0.out] at h; exact absurd rfl h
          · have := HKL.out; omega
      have hnr : ¬ RBl rg sv pv2 k := fun e => by
        rcases e with e | e | e
        · exact HBL1.out (by rw [← HKB.out]; exact .inl e)
        · exact HBL1.out (by rw [← HKB.out]; exact .inr (.inl e))
        · rcases HF2.out k e with h | h
          · exact HBL1.out (by rw [← HKB.out]; exact .inr (.inr h))
          · have := HKL.out; omega
      refine ⟨by simp, _, H.out.next HR.out HRR.out (HD1.out.mono (by omega)) ((HX0.out.keep _).trans HK1.out) (fun k hk => (HF1.out k hk).imp id (fun h => by have := HZB.out; omega)) (Ext.refl _) (HR2.out.mono (by omega)) HK2.out (fun k hk => ?_) (HKW.out.mono fun j hj _ e => ?_)⟩
      · rcases hk with hk | hk | hk
        · exact .inl (.inl hk)
        · exact .inl (.inr (.inl hk))
        · rcases HF2.out k hk with h | h
          · exact .inl (.inr (.inr h))
          · exact .inr h
      · subst e
        rcases hj with hj | hj | hj
        · omega
        · exact hj hnk
        · exact hnr hj

set_option maxRecDepth 100000 in
set_option maxHeartbeats 4000000 in
theorem do8_any {w : World} {B M g rg : Nat} {ρ : Nat → Option DRol} {R : Nat → Prop} {d : Dv} (h : Pr w B M g rg ρ R d) (hM : M ≤ 900000) (two : Bool) (n fill : Int) (hn : -9223372036854775808 ≤ n ∧ n ≤ 9223372036854775807) (hf : -9223372036854775808 ≤ fill ∧ fill ≤ 9223372036854775807) (head : ByteArray) (pa : Option Addr) (pl pc : Nat) (hhd : head.size ≤ 9223372036854775807) :
    Calls Try.prog 40 #[.pointer (some ⟨g, 0, none⟩), .pointer (some ⟨rg, 0, none⟩), .agg #[.int .i64 8, .bool two, .int .i64 n, .int .i64 fill, .string head, .slice pa pl pc]] w (DoEnd w B M g rg ρ R) := by
  obtain ⟨sv, pv, rf, P, hr, hR⟩ := h.ref
  have H := hid h
  have HRR := hid hR
  have HR := hid hr
  have HN := hid hn
  have hbx : ρ w.heap.size = none := by
    by_cases e : ρ w.heap.size = none
    · exact e
    · have := h.dv.lt' e; omega
  have hbx2 : ¬ RBl rg sv pv w.heap.size := fun e => by have := (hr.lt e).2; omega
  have HBX := hid hbx
  have hgg : w.heap.size ≠ g := by
    intro e; rw [e] at hbx
    obtain ⟨_, _, _, hp⟩ := h.dv
    rw [hp.rg] at hbx; cases hbx
  have HBX2 := hid hbx2
  have HGG := hid hgg
  have HNG := hid (show ∀ k, ρ k = none → k ≠ g from fun k hk e => by
    rw [e] at hk
    obtain ⟨_, _, _, hp⟩ := h.dv
    rw [hp.rg] at hk; cases hk)
  clear h hr hR hn hbx hbx2 hgg
  go_enter Try.func40, Try.ntmps40
  obtain ⟨wb, hwb⟩ : ∃ wb, wb = w.alloc (.cells #[.int .i64 8, .bool two, .int .i64 n, .int .i64 fill, .string head, .slice pa pl pc] 46) := ⟨_, rfl⟩
  have hxb : Ext w wb := by rw [hwb]; exact (Ext.refl _).alloc _
  have hrb : wb.heap[w.heap.size]? = some (.cells #[.int .i64 8, .bool two, .int .i64 n, .int .i64 fill, .string head, .slice pa pl pc] 46 (0, 0)) := by rw [hwb]; exact heap_alloc_new _ _
  have hzb : wb.heap.size = w.heap.size + 1 := by rw [hwb]; simp
  go_wp2_with fail
  rw [← hwb]
  have HZB := hid hzb
  clear hzb
  refine (Block_any wb fill hf head).mono ?_
  rintro e w0 ⟨rfl, hr0, hx0⟩
  have hz0 := hx0.size
  have hx0' := hxb.trans hx0
  have HX0 := hid hx0'
  have HRB := hid (row_ext hx0 hrb)
  have c0 := (cell_of_row _ _ 0 _ _ _ HRB.out).trans rfl
  have c2 := (cell_of_row _ _ 2 _ _ _ HRB.out).trans rfl
  have c4 := (cell_of_row _ _ 4 _ _ _ HRB.out).trans rfl
  obtain ⟨cap, wc, cur0, fz, hcv, hv0, hxc, hr0', hcs0, hfz⟩ := strBytes2 w0 head hhd
  have hz3 := HZB.out
  have hbl0 : ρ w0.heap.size = none := by
    by_cases e : ρ w0.heap.size = none
    · exact e
    · have := H.out.dv.lt' e; omega
  have hbl1 : ¬ RBl rg sv pv w0.heap.size := fun e => by have := (HR.out.lt e).2; omega
  have HBL0 := hid hbl0
  have HBL1 := hid hbl1
  have hlt0 : w0.heap.size < wc.heap.size := (Array.getElem?_eq_some_iff.1 hr0').1
  have HX0 := hid (hx0'.trans hxc)
  have HRB := hid (row_ext hxc HRB.out)
  have c2c := (cell_of_row _ _ 2 _ _ _ HRB.out).trans rfl
  have HV0 := hid hv0
  have HR0 := hid hr0'
  have HCS := hid hcs0
  have HFZ := hid hfz
  have hsz : head.data.toList.length = head.size := by rw [Lib.size_eq]
  have HSZ := hid hsz
  clear hwb hxb hrb hx0 hx0' hr0 hf hz3 hbl0 hbl1 hv0 hr0' hcs0 hfz hxc hsz
  go_wp2_with fail
  refine (Write_any wc g ρ M d (H.out.dv.ext HX0.out) (by omega) n HN.out _ head.data.toList HV0.out (fun k hk => by simp only [Value.ownBlock, Option.some.injEq] at hk; rw [← hk]; exact HBL0.out)).mono ?_
  rintro e w1 ⟨rfl, ρ1, hd1, hk1, hf1⟩
  have hr1 : RAt w1 B M rg sv pv rf d P := H.out.ref1 HR.out HRR.out ((HX0.out.keep _).trans hk1) (Ext.refl _)
  have hz1 := hk1.size
  have HRW1 := hid (row_past hk1 HR0.out HBL0.out)
  have HV1 := hid (Rd.carry HV0.out hk1.size fun k hk hl => hk1.block k (by simp only [Value.ownBlock, Option.some.injEq] at hk; rw [← hk]; exact HBL0.out) hl)
  have c2 := (cell_of_row _ _ 2 _ _ _ (row_past hk1 HRB.out HBX.out)).trans rfl
  have HK1 := hid hk1
  have HD1 := hid hd1
  have HF1 := hid hf1
  have HR1 := hid hr1
  clear hk1 hd1 hf1 hr1
  go_wp2_with fail
  refine (RPut_any HR1.out (by omega) n HN.out _ head.data.toList HV1.out (fun k hk => by simp only [Value.ownBlock, Option.some.injEq] at hk; rw [← hk]; exact HBL1.out)).mono ?_
  rintro e w2 ⟨rfl, ⟨pv2, rf2, P2, hr2, hf2⟩, hk2⟩
  have hrow2 : w2.heap[w0.heap.size]? = some (.cells cur0 5 fz) := (hk2.block _ HBL1.out (by omega)).trans HRW1.out
  have hz2 := hk2.size
  have HROW2 := hid hrow2
  have HR2 := hid hr2
  have HK2 := hid hk2
  have HF2 := hid hf2
  obtain ⟨wd, hwd⟩ : ∃ wd, writeF d n head.data.toList = wd := ⟨_, rfl⟩
  rw [hwd] at HD1 HR2 ⊢
  obtain ⟨code, d'⟩ := wd
  dsimp only at HD1 HR2 ⊢
  obtain ⟨k, hkb⟩ : ∃ k, k = w0.heap.size := ⟨_, rfl⟩
  rw [← hkb] at HROW2 HFZ ⊢
  obtain ⟨L, hL⟩ : ∃ L, L = head.size := ⟨_, rfl⟩
  rw [← hL] at HCS HFZ ⊢
  have hLb : L ≤ 9223372036854775807 := by rw [hL]; exact hhd
  clear hL hhd
  have hkw : w.heap.size ≤ k := by have := HZB.out; omega
  have HKL := hid (show k < wc.heap.size by omega)
  have HKB := hid hkb
  clear hkb hlt0
  clear hrow2 hr2 hk2 hf2 hwd
  go_wp2_with fail
  go_loopw [16] (fun u16 wr => ∃ i cur, u16 = .int .i64 (i : Nat) ∧ i ≤ L ∧ wr.heap[k]? = some (.cells cur 5 fz) ∧ L ≤ cur.size ∧ Keep (fun j => j ≠ k) w2 wr) (fun u16 _ => L - (intOf u16).toNat)
  case atStart => exact ⟨0, _, rfl, by omega, HROW2.out, HCS.out, Keep.refl _ _⟩
  case round =>
    obtain ⟨i, cur, rfl, hi, hrow, hcs, hkw'⟩ := hrel
    have HKW := hid hkw'
    have HRW := hid hrow
    by_cases hlt : i < L
    · have c0 := row_some' hrow (i := i) (by omega)
      have f0 := HFZ.out _ _ hrow i hlt
      have HS := hid (show L ≤ (cur.setIfInBounds i (.int .u8 98)).size by simp; exact hcs)
      have i1 : (i : Int) < (L : Int) := by omega
      have hw1 : IntKind.i64.wrap ((i : Int) + 1) = (i : Int) + 1 := by rw [IntKind.wrap_i64]; omega
      generalize cur[i] = old at c0
      clear hrow hkw'
      go_wp2_with fail
      exact ⟨⟨i + 1, _, rfl, by omega, blk_set HRW.out _, HS.out, HKW.out.setCell (by simp) _⟩, by simp only [intOf]; omega⟩
    · have i1 : ¬ (i : Int) < (L : Int) := by omega
      clear hrow hkw'
      go_wp2_with fail
      go_ret
      have hnk : ρ1 k = none := by
        by_cases e : ρ1 k = none
        · exact e
        · rcases HF1.out k e with h | h
          · rw [HKB.out, HBL0.out] at h; exact absurd rfl h
          · have := HKL.out; omega
      have hnr : ¬ RBl rg sv pv2 k := fun e => by
        rcases e with e | e | e
        · exact HBL1.out (by rw [← HKB.out]; exact .inl e)
        · exact HBL1.out (by rw [← HKB.out]; exact .inr (.inl e))
        · rcases HF2.out k e with h | h
          · exact HBL1.out (by rw [← HKB.out]; exact .inr (.inr h))
          · have := HKL.out; omega
      refine ⟨by simp, _, H.out.next HR.out HRR.out (HD1.out.mono (by omega)) ((HX0.out.keep _).trans HK1.out) (fun k hk => (HF1.out k hk).imp id (fun h => by have := HKL.out; omega)) (Ext.refl _) (HR2.out.mono (by omega)) HK2.out (fun k hk => ?_) (HKW.out.mono fun j hj _ e => ?_)⟩
      · rcases hk with hk | hk | hk
        · exact .inl (.inl hk)
        · exact .inl (.inr (.inl hk))
        · rcases HF2.out k hk with h | h
          · exact .inl (.inr (.inr h))
          · exact .inr h
      · subst e
        rcases hj with hj | hj | hj
        · omega
        · exact hj hnk
        · exact hnr hj

end Go.Proofs.Ytgbiffpnfpdcoaa
