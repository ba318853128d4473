/- super: slots, wrong, read. -/
import Derived.Test.YtgbiffpnfpdcoaaBdF
import Derived.Test.YtgbiffpnfpdcoaaFrameR
import Derived.IntWalk
import Derived.Deep.DeepCutAuto

/- super: wrong, read, walked. -/
namespace Go.Proofs.Ytgbiffpnfpdcoaa
open Go.RowKit Go.Maps
set_option linter.unusedVariables false
set_option linter.unusedSimpArgs false

/-- what one of the two blocks says -/
structure Sl where
  ok : Bool
  count : Int
  data : List UInt8
def sl0 : Sl := ⟨false, 0, []⟩
def slF (b : List UInt8) : Sl :=
  if (frameF b).e ≠ 0 ∨ (frameF b).kind ≠ 115 then sl0 else ⟨decide ((uintF (frameF b).data).2.2 = 0), wrap64 ((uintF (frameF b).data).1 : Int), (frameF b).data.drop (uintF (frameF b).data).2.1⟩

def wrongF (d : Dv) (at_ : Int) : Int := if at_ < 0 ∨ (d.safe.length : Int) - 1 ≤ at_ then 20 else 0

theorem wrong_nil (w : World) (n : Int) : Calls Try.prog 53 #[.pointer none, .int .i64 n] w fun e w' => e = .returned (.int .i64 1) ∧ w = w' := by
  go_enter Try.func53, Try.ntmps53
  go_wp2_with fail
  go_ret
  exact ⟨rfl, rfl⟩
set_option maxRecDepth 100000 in
set_option maxHeartbeats 1000000 in
theorem wrong_any (w : World) (g : Nat) (ρ : Nat → Option DRol) (N : Nat) (d : Dv) (h : DvAt w g ρ N d) (n : Int) (hn : -9223372036854775808 ≤ n ∧ n ≤ 9223372036854775807) :
    Calls Try.prog 53 #[.pointer (some ⟨g, 0, none⟩), .int .i64 n] w fun e w' => e = .returned (.int .i64 (wrongF d n)) ∧ w = w' := by
  obtain ⟨hn1, hn2⟩ := hn
  have hsz : 64 ≤ d.safe.length ∧ d.safe.length ≤ 512 := by obtain ⟨_, _, _, h⟩ := h; exact h.size
  obtain ⟨hs1, hs2⟩ := hsz
  have H := hid h
  clear h
  have hwr : IntKind.i64.wrap ((d.safe.length : Int) - 1) = (d.safe.length : Int) - 1 := by rw [IntKind.wrap_i64]; omega
  by_cases h1 : n < 0
  · have HW := hid (show wrongF d n = 20 by unfold wrongF; rw [if_pos (.inl h1)])
    go_enter Try.func53, Try.ntmps53
    go_wp2_with fail
    go_ret
    exact ⟨by rw [HW.out]; rfl, rfl⟩
  · by_cases h2 : (d.safe.length : Int) - 1 ≤ n
    · have HW := hid (show wrongF d n = 20 by unfold wrongF; rw [if_pos (.inr h2)])
      go_enter Try.func53, Try.ntmps53
      go_wp2_with (go_at_call 43; go_must (refine (Blocks_any H.out).mono ?_; rintro e w1 ⟨rfl, rfl⟩))
      go_ret
      exact ⟨by rw [HW.out]; rfl, rfl⟩
    · have HW := hid (show wrongF d n = 0 by unfold wrongF; rw [if_neg (by omega)])
      go_enter Try.func53, Try.ntmps53
      go_wp2_with (go_at_call 43; go_must (refine (Blocks_any H.out).mono ?_; rintro e w1 ⟨rfl, rfl⟩))
      go_ret
      exact ⟨by rw [HW.out]; rfl, rfl⟩

theorem rdB_row {w : World} {k : Nat} {b : List UInt8} {t : TypeId} {fr : Nat × Nat} (h : w.heap[k]? = some (.cells (bvs b).toArray t fr)) (n : Nat) (hn : n = b.length) (hm : n ≤ 9223372036854775807) : RdB w (.slice (some ⟨k, 0, none⟩) n n) b := by
  subst hn
  refine ⟨_, _, rfl, Nat.le_refl _, by unfold maxLen; omega, by simp [bvs], fun _ => ⟨k, 0, rfl, (Array.getElem?_eq_some_iff.1 h).1, fun j hj => ?_⟩⟩
  rw [cell_of_row _ _ _ _ _ _ h]
  simp

/-- what reading a slot comes to -/
def SrEnd (w : World) (g : Nat) (ρ : Nat → Option DRol) (N : Nat) (d : Dv) (n : Int) (e : Ending) (w' : World) : Prop :=
  ∃ (s : Sl) (v : Value), s = (if (opF d n 0).1 = 0 then slF (curF d n) else sl0) ∧ e = .returned (.tuple #[.agg #[.bool s.ok, .int .i64 s.count, v], .int .i64 (opF d n 0).1]) ∧ RdB w' v s.data ∧ (∀ k, v.ownBlock = some k → w.heap.size ≤ k) ∧ DvAt w' g ρ N (opF d n 0).2 ∧ Keep (fun k => k ≠ g) w w'

theorem three_blk {w : World} {g : Nat} {a b c v0 v1 v2 : Value} {t : TypeId} (h : w.heap[g]? = some (.cells #[a, b, c] t (0, 0))) :
    ((((w.setCell ⟨g, 0, none⟩ v0).setCell ⟨g, 1, none⟩ v1).setCell ⟨g, 2, none⟩ v2).cell? ⟨g, 0, none⟩ = some v0) ∧
    ((((w.setCell ⟨g, 0, none⟩ v0).setCell ⟨g, 1, none⟩ v1).setCell ⟨g, 2, none⟩ v2).cell? ⟨g, 1, none⟩ = some v1) ∧
    ((((w.setCell ⟨g, 0, none⟩ v0).setCell ⟨g, 1, none⟩ v1).setCell ⟨g, 2, none⟩ v2).cell? ⟨g, 2, none⟩ = some v2) := by
  have hr := blk_set (o := 2) (blk_set (o := 1) (blk_set (o := 0) h v0) v1) v2
  exact ⟨(cell_of_row _ _ _ _ _ _ hr).trans rfl, (cell_of_row _ _ _ _ _ _ hr).trans rfl, (cell_of_row _ _ _ _ _ _ hr).trans rfl⟩

theorem DvAt.rlt {w : World} {g : Nat} {ρ : Nat → Option DRol} {N : Nat} {d : Dv} (h : DvAt w g ρ N d) (k : Nat) (hk : ρ k ≠ none) : k < w.heap.size := by obtain ⟨_, _, _, h⟩ := h; exact h.lt k hk
theorem sread_fin {w wz : World} {g gR : Nat} {ρ : Nat → Option DRol} {N : Nat} {d : Dv} {n : Int} {s : Sl} {v : Value} (hs : s = (if (opF d n 0).1 = 0 then slF (curF d n) else sl0)) (hrl : ∀ k, ρ k ≠ none → k < w.heap.size) (hgR : gR = w.heap.size)
    (hd : DvAt wz g ρ N (opF d n 0).2) (hk : Keep (fun k => k ≠ g) w wz) (hv : RdB wz v s.data) (hvb : ∀ k, v.ownBlock = some k → w.heap.size < k) (x0 x1 : Value) :
    SrEnd w g ρ N d n (.returned (.tuple #[.agg #[.bool s.ok, .int .i64 s.count, v], .int .i64 (opF d n 0).1])) (((wz.setCell ⟨gR, 0, none⟩ x0).setCell ⟨gR, 1, none⟩ x1).setCell ⟨gR, 2, none⟩ v) := by
  have hk3 : Keep (fun k => k ≠ gR) wz (((wz.setCell ⟨gR, 0, none⟩ x0).setCell ⟨gR, 1, none⟩ x1).setCell ⟨gR, 2, none⟩ v) :=
    (((Keep.refl _ _).setCell (by simp) _).setCell (by simp) _).setCell (by simp) _
  refine ⟨s, v, hs, rfl, ?_, fun k hk => Nat.le_of_lt (hvb k hk), hd.keep (hk3.mono fun k hk _ e => ?_), ?_⟩
  · exact Rd.carry hv hk3.size fun k hk _ => hk3.block k (fun e => by have := hvb k hk; omega) (by assumption)
  · have := hrl k hk; omega
  · have h1 : Keep (fun k => k ≠ g ∧ k ≠ gR) w wz := hk.mono fun k hk _ => hk.1
    exact (h1.trans (hk3.mono fun k hk _ => hk.2)).mono fun k hk hl => ⟨hk, by omega⟩

set_option maxRecDepth 100000 in
set_option maxHeartbeats 2000000 in
theorem sread_any (w : World) (g : Nat) (ρ : Nat → Option DRol) (N : Nat) (d : Dv) (h : DvAt w g ρ N d) (hN : N ≤ 1000000000) (n : Int) (hn : -9223372036854775808 ≤ n ∧ n ≤ 9223372036854775807) :
    Calls Try.prog 81 #[.pointer (some ⟨g, 0, none⟩), .int .i64 n] w (SrEnd w g ρ (N + 1) d n) := by
  have hgw : g < w.heap.size := by obtain ⟨_, _, _, h⟩ := h; exact h.glt
  have HRL := hid (fun k (hk : ρ k ≠ none) => h.rlt k hk)
  have H := hid h
  have HN := hid hn
  clear h hn
  go_enter Try.func81, Try.ntmps81
  go_wp2_with fail
  obtain ⟨wa, hwa⟩ : ∃ wa, wa = w.alloc (.cells #[.bool false, .int .i64 0, .slice none 0 0] 95) := ⟨_, rfl⟩
  have hxa : Ext w wa := by rw [hwa]; exact (Ext.refl w).alloc _
  have hra : wa.heap[w.heap.size]? = some (.cells #[.bool false, .int .i64 0, .slice none 0 0] 95 (0, 0)) := by rw [hwa]; exact heap_alloc_new _ _
  rw [← hwa]
  obtain ⟨gR, hgR⟩ : ∃ gR, gR = w.heap.size := ⟨_, rfl⟩
  rw [← hgR] at hra ⊢
  have hgRg : ¬ gR = g := by omega
  have hgRa : gR < wa.heap.size := (Array.getElem?_eq_some_iff.1 hra).1
  have hga : w.heap.size < wa.heap.size := by omega
  clear hwa
  refine (Read_any wa g ρ N d (H.out.ext hxa) hN n HN.out).mono ?_
  rintro e w1 ⟨hcase, hd1, hk1⟩
  have hr1 := (hk1.block gR hgRg hgRa).trans hra
  have HX := hid hxa
  have HD1 := hid hd1
  have HK1 := hid hk1
  have HGR := hid hgR
  have hs1 := hk1.size
  clear hxa hd1 hk1 hra hgR
  rcases hcase with ⟨hx, rfl⟩ | ⟨hx, hbl, k, rfl, hk, hrow1⟩
  · have HS := hid (show sl0 = (if (opF d n 0).1 = 0 then slF (curF d n) else sl0) by rw [if_neg hx])
    generalize hX : opF d n 0 = X at hx
    have HXX := hid hX
    obtain ⟨x1, d1⟩ := X
    clear hX
    dsimp only at hx
    have y0 := blk_fro hr1 0
    have y1 := blk_fro hr1 1
    have y2 := blk_fro hr1 2
    have z0 : w1.cell? ⟨gR, 0, none⟩ = some (.bool false) := (cell_of_row _ _ _ _ _ _ hr1).trans rfl
    have z1 : w1.cell? ⟨gR, 1, none⟩ = some (.int .i64 0) := (cell_of_row _ _ _ _ _ _ hr1).trans rfl
    have z2 : w1.cell? ⟨gR, 2, none⟩ = some (.slice none 0 0) := (cell_of_row _ _ _ _ _ _ hr1).trans rfl
    have HR1 := hid hr1
    clear hr1
    go_wp2_with fail
    obtain ⟨q0, q1, q2⟩ := three_blk (v0 := .bool false) (v1 := .int .i64 0) (v2 := .slice none 0 0) HR1.out
    have hR := HD1.out
    refine bodyPost_ret (v := .tuple #[.agg #[.bool false, .int .i64 0, .slice none 0 0], .int .i64 x1]) (by simp [results, Try.results81, go_sem, q0, q1, q2]) rfl ?_
    have hf := sread_fin (s := sl0) (v := .slice none 0 0) (x0 := .bool false) (x1 := .int .i64 0) HS.out HRL.out HGR.out HD1.out ((HX.out.keep _).trans HK1.out) (RdB.nil _) (by simp [Value.ownBlock])
    rw [HXX.out] at hf
    exact hf
  · have hbk := hid (show (if (opF d n 0).1 = 0 then slF (curF d n) else sl0) = slF (curF d n) by rw [if_pos hx])
    have HX0 := hid hx
    generalize hB : curF d n = B at hbl hrow1 hbk
    have hrd := rdB_row hrow1 512 hbl.symm (by omega)
    have hfe := (Frame_any w1 _ B hrd (by omega))
    have HB := hid hB
    have hkw := hk
    have HBK := hbk
    have HR1 := hid hr1
    clear hrow1 hrd hbl hB hx hr1 hbk
    go_wp2_with fail
    refine hfe.mono ?_
    clear hfe
    rintro e w2 ⟨dv, rfl, ho, hb⟩
    obtain ⟨da, dc, rfl⟩ := ho.slice
    have hx2 := Ext.of hb
    generalize hf : frameF B = f at ho
    have HF := hid hf
    have hrd2 := rdB_own ho
    have HO := hid ho
    have hdb : ∀ k, (Value.slice da f.data.length dc).ownBlock = some k → w.heap.size < k := fun k hk => by
      have h1 := (World.ownsRow.lt ho k hk).1; have := HK1.out.size; omega
    have HDB := hid hdb
    have HX2 := hid hx2
    have hr2 := (Below.block hx2 gR (by omega)).trans HR1.out
    obtain ⟨wF, hwF⟩ : ∃ wF, wF = w2.alloc (.cells #[.int .u8 ((f.kind.toNat : Nat) : Int), .slice da f.data.length dc] 138) := ⟨_, rfl⟩
    have hx3 : Ext w2 wF := by rw [hwF]; exact (Ext.refl _).alloc _
    have hrF : wF.heap[w2.heap.size]? = some (.cells #[.int .u8 ((f.kind.toNat : Nat) : Int), .slice da f.data.length dc] 138 (0, 0)) := by rw [hwF]; exact heap_alloc_new _ _
    have b0 : wF.cell? ⟨w2.heap.size, 0, none⟩ = some (.int .u8 ((f.kind.toNat : Nat) : Int)) := (cell_of_row _ _ _ _ _ _ hrF).trans rfl
    have b1 : wF.cell? ⟨w2.heap.size, 1, none⟩ = some (.slice da f.data.length dc) := (cell_of_row _ _ _ _ _ _ hrF).trans rfl
    have hr3 := (Below.block hx3 gR (by have := hx2.size; omega)).trans hr2
    have y0 := blk_fro hr3 0
    have y1 := blk_fro hr3 1
    have y2 := blk_fro hr3 2
    have z0 : wF.cell? ⟨gR, 0, none⟩ = some (.bool false) := (cell_of_row _ _ _ _ _ _ hr3).trans rfl
    have z1 : wF.cell? ⟨gR, 1, none⟩ = some (.int .i64 0) := (cell_of_row _ _ _ _ _ _ hr3).trans rfl
    have z2 : wF.cell? ⟨gR, 2, none⟩ = some (.slice none 0 0) := (cell_of_row _ _ _ _ _ _ hr3).trans rfl
    have HR3 := hid hr3
    have HX3 := hid hx3
    have HRD := hid (RdB.ext hrd2 hx3)
    clear hf ho hb hx2 hdb hr2 hrF hr3 hx3 hrd2
    have b0' : (w2.alloc (.cells #[.int .u8 ((f.kind.toNat : Nat) : Int), .slice da f.data.length dc] 138)).cell? ⟨w2.heap.size, 0, none⟩ = some (.int .u8 ((f.kind.toNat : Nat) : Int)) := by rw [← hwF]; exact b0
    go_upto_region 5 with fail
    rw [← hwF]
    clear hwF b0'
    have hSF := hid (show (if (opF d n 0).1 = 0 then slF (curF d n) else sl0) = slF B by rw [HB.out]; exact HBK.out)
    obtain ⟨gF, hgF⟩ : ∃ gF, gF = w2.heap.size := ⟨_, rfl⟩
    rw [← hgF] at b0 b1 ⊢
    have hgFR : ¬ gF = gR := by have := HX2.out.size; omega
    have hgFR' : ¬ gR = gF := fun e => hgFR e.symm
    clear hgF
    by_cases hE : f.e = 0
    · by_cases hK : f.kind = 115
      · have hEi : (f.e : Int) = 0 := by omega
        have hKi : ((f.kind.toNat : Nat) : Int) = 115 := by rw [hK]; rfl
        obtain ⟨hu1, hu2, hu3, hu4⟩ := uintF_facts f.data
        have hui := Uint_any wF _ f.data HRD.out
        have hS := hid (show slF B = ⟨decide ((uintF f.data).2.2 = 0), wrap64 ((uintF f.data).1 : Int), f.data.drop (uintF f.data).2.1⟩ by
          unfold slF; rw [HF.out, if_neg (by rw [hE, hK]; simp)])
        clear hu4 hu2 hE hK
        generalize uintF f.data = U at hu1 hu3 hui hS
        obtain ⟨u, uk, ue⟩ := U
        dsimp only at hu1 hu3 hui hS
        have HU := hid hui
        clear hui
        go_wp2_with fail
        refine HU.out.mono ?_
        rintro e w5 ⟨rfl, rfl⟩
        have hdr := RdB.drop HRD.out uk hu3
        have HDR := hid hdr
        clear hdr
        go_wp2_with ((with_reducible refine at_slice ?_); go_must (refine wl_slice_l rfl rfl Try.underlying22 sizeU8 rfl rfl uk rfl ?_ ?_; omega))
        have HEQ := hid (show decide (ue = 0) = ((ue : Int) == 0) by rw [Bool.eq_iff_iff]; simp)
        obtain ⟨q0, q1, q2⟩ := three_blk (v0 := .bool ((ue : Int) == 0)) (v1 := .int .i64 (wrap64 (u : Int))) (v2 := (.slice (cutAt da dc uk 1) (f.data.length - uk) (dc - uk))) HR3.out
        refine bodyPost_ret (v := .tuple #[.agg #[.bool ((ue : Int) == 0), .int .i64 (wrap64 (u : Int)), (.slice (cutAt da dc uk 1) (f.data.length - uk) (dc - uk))], .int .i64 0]) (by simp [results, Try.results81, go_sem, q0, q1, q2]) rfl ?_
        have hf := sread_fin (N := N + 1) (s := ⟨((ue : Int) == 0), wrap64 (u : Int), f.data.drop uk⟩) (v := (.slice (cutAt da dc uk 1) (f.data.length - uk) (dc - uk))) (wz := wF) (x0 := .bool ((ue : Int) == 0)) (x1 := .int .i64 (wrap64 (u : Int))) (by rw [hSF.out, hS.out, HEQ.out]) HRL.out HGR.out (HD1.out.ext (HX2.out.trans HX3.out)) (((HX.out.keep _).trans HK1.out).trans ((HX2.out.trans HX3.out).keep _)) HDR.out (fun j hj => HDB.out j (by rw [cutAt_block (n' := f.data.length) (m' := dc)] at hj; exact hj))
        rw [HX0.out] at hf
        exact hf
      · have hEi : (f.e : Int) = 0 := by omega
        have hKn : ¬ f.kind.toNat = 115 := fun e => hK (UInt8.toNat_inj.1 e)
        have hKi : (((f.kind.toNat : Nat) : Int) != 115) = true := by simp; omega
        have hS := hid (show slF B = sl0 by unfold slF; rw [HF.out, if_pos (.inr hK)])
        clear hE hK hKn
        go_wp2_with fail
        obtain ⟨q0, q1, q2⟩ := three_blk (v0 := .bool false) (v1 := .int .i64 0) (v2 := (.slice none 0 0)) HR3.out
        refine bodyPost_ret (v := .tuple #[.agg #[.bool false, .int .i64 0, (.slice none 0 0)], .int .i64 0]) (by simp [results, Try.results81, go_sem, q0, q1, q2]) rfl ?_
        have hf := sread_fin (N := N + 1) (s := sl0) (v := (.slice none 0 0)) (wz := wF) (x0 := .bool false) (x1 := .int .i64 0) (by rw [hSF.out, hS.out]) HRL.out HGR.out (HD1.out.ext (HX2.out.trans HX3.out)) (((HX.out.keep _).trans HK1.out).trans ((HX2.out.trans HX3.out).keep _)) (RdB.nil _) (by simp [Value.ownBlock])
        rw [HX0.out] at hf
        exact hf
    · have hEi : ((f.e : Int) != 0) = true := by simp; omega
      have hS := hid (show slF B = sl0 by unfold slF; rw [HF.out, if_pos (.inl hE)])
      clear hE
      go_wp2_with fail
      obtain ⟨q0, q1, q2⟩ := three_blk (v0 := .bool false) (v1 := .int .i64 0) (v2 := (.slice none 0 0)) HR3.out
      refine bodyPost_ret (v := .tuple #[.agg #[.bool false, .int .i64 0, (.slice none 0 0)], .int .i64 0]) (by simp [results, Try.results81, go_sem, q0, q1, q2]) rfl ?_
      have hf := sread_fin (N := N + 1) (s := sl0) (v := (.slice none 0 0)) (wz := wF) (x0 := .bool false) (x1 := .int .i64 0) (by rw [hSF.out, hS.out]) HRL.out HGR.out (HD1.out.ext (HX2.out.trans HX3.out)) (((HX.out.keep _).trans HK1.out).trans ((HX2.out.trans HX3.out).keep _)) (RdB.nil _) (by simp [Value.ownBlock])
      rw [HX0.out] at hf
      exact hf
end Go.Proofs.Ytgbiffpnfpdcoaa

/- super: both, walked. -/
namespace Go.Proofs.Ytgbiffpnfpdcoaa
open Go.RowKit Go.Maps
set_option linter.unusedVariables false
set_option linter.unusedSimpArgs false

theorem ret_boolS {a b : Bool} (h : a = b) : Ending.returned (.bool a) = .returned (.bool b) := by rw [h]
set_option maxRecDepth 100000 in
set_option maxHeartbeats 2000000 in
theorem newer_a (w : World) (gS gN : Nat) (i : Nat) (hi : i = 0 ∨ i = 1) (ok : Bool) (h0 : w.cell? ⟨gS, i * 3, none⟩ = some (.bool ok)) (hN : w.cell? ⟨gN, 0, none⟩ = some (.int .i64 (-1))) :
    Calls Try.prog 80 #[.int .i64 i, .pointer (some ⟨gS, 0, none⟩), .pointer (some ⟨gN, 0, none⟩)] w fun e w' => e = .returned (.bool ok) ∧ Ext w w' := by
  cases ok
  all_goals
    rcases hi with rfl | rfl
    all_goals
      simp only [Nat.zero_mul, Nat.one_mul] at h0
      go_enter Try.func80, Try.ntmps80
      go_wp2_with fail
      go_region
      all_goals
        go_wp2_with fail
        go_ret
        exact ⟨rfl, by (· repeat (first | (with_reducible assumption) | exact Ext.refl _ | refine Ext.alloc ?_ _ | refine Ext.drew ?_ | refine Ext.drewN ?_ _ | (apply Ext.snart; (with_reducible assumption))))⟩
set_option maxRecDepth 100000 in
set_option maxHeartbeats 2000000 in
theorem newer_b (w : World) (gS gN : Nat) (ok : Bool) (c0 c1 : Int) (h0 : w.cell? ⟨gS, 3, none⟩ = some (.bool ok)) (h1 : w.cell? ⟨gS, 4, none⟩ = some (.int .i64 c1)) (h2 : w.cell? ⟨gS, 1, none⟩ = some (.int .i64 c0)) (hN : w.cell? ⟨gN, 0, none⟩ = some (.int .i64 0)) :
    Calls Try.prog 80 #[.int .i64 1, .pointer (some ⟨gS, 0, none⟩), .pointer (some ⟨gN, 0, none⟩)] w fun e w' => e = .returned (.bool (ok && decide (c0 < c1))) ∧ Ext w w' := by
  cases ok
  · go_enter Try.func80, Try.ntmps80
    go_wp2_with fail
    go_region
    all_goals
      go_wp2_with fail
      go_ret
      exact ⟨rfl, by (· repeat (first | (with_reducible assumption) | exact Ext.refl _ | refine Ext.alloc ?_ _ | refine Ext.drew ?_ | refine Ext.drewN ?_ _ | (apply Ext.snart; (with_reducible assumption))))⟩
  · by_cases hc : c0 < c1
    all_goals
      have HC := hid hc
      go_enter Try.func80, Try.ntmps80
      go_wp2_with fail
      go_region
      all_goals
        go_wp2_with fail
        go_ret
        exact ⟨ret_boolS (by simp [HC.out]), by (· repeat (first | (with_reducible assumption) | exact Ext.refl _ | refine Ext.alloc ?_ _ | refine Ext.drew ?_ | refine Ext.drewN ?_ _ | (apply Ext.snart; (with_reducible assumption))))⟩
end Go.Proofs.Ytgbiffpnfpdcoaa
