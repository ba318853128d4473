/- cartularylaw02.BlockdevKeeps, walked. -/
import Derived.Test.YtgbiffpnfpdcoaaBdV
import Derived.Test.YtgbiffpnfpdcoaaCall2
namespace Go.Proofs.Ytgbiffpnfpdcoaa
open Go.RowKit Go.Maps
set_option linter.unusedVariables false
set_option linter.unusedSimpArgs false

theorem strRow (W : World) (s : ByteArray) : (Instr.buildSlice 42 1 #[(0, .string s)]).run Try.prog W = .ok (.slice (some ⟨W.heap.size, 0, none⟩) 1 1) (W.alloc (.cells #[.string s] 9)) := by kernel_rfl
/-- one of the first ones is x -/
def seenF (l : List Bk) (j : Nat) (x : Bk) : Bool := decide (∃ k, k < j ∧ l[k]? = some x)
theorem seenF_zero (l : List Bk) (x : Bk) : seenF l 0 x = false := by
  unfold seenF; rw [decide_eq_false_iff_not]; rintro ⟨k, h, _⟩; omega
theorem seenF_next (l : List Bk) (j : Nat) (x : Bk) (hj : j < l.length) : seenF l (j + 1) x = (seenF l j x || decide (l[j] = x)) := by
  unfold seenF
  rw [Bool.eq_iff_iff]
  simp only [decide_eq_true_eq, Bool.or_eq_true]
  constructor
  · rintro ⟨k, h1, h2⟩
    by_cases e : k = j
    · subst e
      right
      rw [List.getElem?_eq_getElem hj] at h2
      exact Option.some.inj h2
    · exact .inl ⟨k, by omega, h2⟩
  · rintro (⟨k, h1, h2⟩ | h)
    · exact ⟨k, by omega, h2⟩
    · exact ⟨j, by omega, by rw [List.getElem?_eq_getElem hj, h]⟩
theorem seenF_all {l : List Bk} {x : Bk} (h : x ∈ l) : seenF l l.length x = true := by
  unfold seenF
  rw [decide_eq_true_eq]
  obtain ⟨k, hk, e⟩ := List.getElem_of_mem h
  exact ⟨k, hk, by rw [List.getElem?_eq_getElem hk, e]⟩
theorem pend_still {d : Dv} (h : Still d) : pendL d = [] := by
  cases e : pendL d with
  | nil => rfl
  | cons x xs =>
    have := (pendL_mem (d := d) (fun n hn => absurd (h n) hn) (x := x)).1 (by rw [e]; simp)
    exact absurd (h x) this

set_option maxRecDepth 100000 in
set_option maxHeartbeats 8000000 in
theorem blockdevKeeps_walk (w : World) (v1 : Value) (first : List Call2) (hv1 : RdS rCall2 w (fun k => k < w.heap.size) v1 first) (v2 : Value) (then' : List Call2) (hv2 : RdS rCall2 w (fun k => k < w.heap.size) v2 then') (v3 : Value) (picks : List Int) (hv3 : RdS rI w (fun k => k < w.heap.size) v3 picks) :
    Calls Try.prog 6 #[v1, v2, v3] w fun e w' => e = .returned (.bool true) ∧ Below w.heap.size w w' := by
  obtain ⟨va1, vc1, rfl, -⟩ := hv1.slice
  obtain ⟨va2, vc2, rfl, -⟩ := hv2.slice
  obtain ⟨va3, vc3, rfl, -⟩ := hv3.slice
  have HV1 := hid hv1
  have HV2 := hid hv2
  have HV3 := hid hv3
  clear hv1 hv2 hv3
  go_enter Try.func6, Try.ntmps6
  go_wp2_with fail
  refine (awake02_any w).mono ?_
  rintro e w1 ⟨rfl, hx1⟩
  have HX1 := hid hx1
  clear hx1
  go_wp2_with fail
  refine (BNew_ok w1 64 (by omega) (by omega)).mono ?_
  rintro e w2 ⟨g, rfl, ⟨ρ, hd, hn⟩, hx⟩
  have HM := hid (show Mine w1 w2 g ρ 0 (dv0 64) from ⟨hd, hn, hx⟩)
  have HNW := hid hn
  clear hd hn hx
  go_wp2_with fail
  obtain ⟨z, hz⟩ : ∃ z, z = w2.heap.size := ⟨_, rfl⟩
  rw [← hz]
  have HZ := hid hz
  have hzle : w2.heap.size ≤ z := by omega
  clear hz
  go_loopw [11] (fun u11 wr => ∃ (i : Nat) (vs : Nat → Value), u11 = .int .i64 i ∧ i ≤ 64 ∧ Ext w2 wr ∧ MayAt wr ρ z w1.heap.size vs (fun n => if n < i then [zb] else [])) (fun u11 _ => 64 - (intOf u11).toNat)
  case atStart =>
    have hz := HZ.out
    refine ⟨0, fun _ => .slice none 0 0, rfl, Nat.zero_le _, (Ext.refl _).alloc _, ?_, fun n hn => OwnS.nil _ _ _ _ _, fun _ _ _ _ _ k hk => by simp [Value.ownBlock] at hk, fun _ _ k hk => by simp [Value.ownBlock] at hk, HM.out.late (Ext.refl _) (by omega)⟩
    rw [hz]
    exact heap_alloc_new _ _
  case round =>
    obtain ⟨i, vs, rfl, hi, hxr, hmay⟩ := hrel
    have HXR := hid hxr
    have HMAY := hid hmay
    have hzr := hxr.size
    clear hxr hmay
    by_cases hlt : i < 64
    · have i1 : (i : Int) < 64 := by omega
      have hw1 : IntKind.i64.wrap ((i : Int) + 1) = (i : Int) + 1 := by rw [IntKind.wrap_i64]; omega
      go_wp2_with fail
      refine (Noughts_any wr).mono ?_
      rintro e w3 ⟨rfl, hx3⟩
      have hm3 := HMAY.out.ext hx3
      have hz3 := hx3.size
      have hzl := hm3.zlt
      have hbr := strRow w3 ⟨zb.toArray⟩
      have hl3 : ∀ k, w3.heap.size ≤ k → ρ k = none := fun k hk => HM.out.late HXR.out (by omega)
      have hnew := hm3.one hlt (b := zb) zb_len (by have := HM.out.ex.size; omega) hl3
      have c1 : (w3.alloc (.cells #[.string ⟨zb.toArray⟩] 9)).cell? ⟨z, i, none⟩ = some (vs i) := by
        rw [cell_of_row _ _ _ _ _ _ (row_ext ((Ext.refl _).alloc _) hm3.row), arrV_get _ _ hlt]
      have f1 := blk_fro (row_ext ((Ext.refl w3).alloc (.cells #[.string ⟨zb.toArray⟩] 9)) hm3.row) i
      have hxk : Ext w2 ((w3.alloc (.cells #[.string ⟨zb.toArray⟩] 9)).setCell ⟨z, i, none⟩ (.slice (some ⟨w3.heap.size, 0, none⟩) 1 1)) := by
        have h1 : Ext w2 (w3.alloc (.cells #[.string ⟨zb.toArray⟩] 9)) := (HXR.out.trans hx3).alloc _
        exact Keep.ext (((h1.keep (fun k => k < w2.heap.size)).setCell (p := ⟨z, i, none⟩) (fun h => by have h : z < w2.heap.size := h; omega) _).mono fun k _ hl => hl)
      rw [World.setCell_alloc_past _ _ _ _ hzl] at hnew hxk
      have HNEW := hid hnew
      have HXK := hid hxk
      clear hm3 hl3 hnew hxk hx3
      go_wp2_with fail
      refine ⟨⟨i + 1, _, rfl, by omega, HXK.out, HNEW.out.cong fun n hn => ?_⟩, by simp only [intOf]; omega⟩
      by_cases e : n = i
      · subst e; simp
      · by_cases e2 : n < i
        · rw [if_neg e, if_pos e2, if_pos (by omega)]
        · rw [if_neg e, if_neg e2, if_neg (by omega)]
    · have hie : i = 64 := by omega
      subst hie
      have i1 : ¬ (((64 : Nat) : Int) < 64) := by omega
      go_wp2_with fail
      have HM2 := hid (HM.out.ext HXR.out)
      clear HXR i1 hi
      go_loopw [12] (fun u12 wq => ∃ (i : Nat) (ρi : Nat → Option DRol) (di : Dv) (vs : Nat → Value) (f : Nat → List Bk), u12 = .int .i64 i ∧ i ≤ first.length ∧ i ≤ 60 ∧ Mine w1 wq g ρi (2 * i) di ∧ Calm di ∧ di.safe.length = 64 ∧ MayAt wq ρi z w1.heap.size vs f ∧ ∀ n : Nat, n < 64 → f n = [curF di n]) (fun u12 _ => 60 - (intOf u12).toNat)
      case atStart =>
        refine ⟨0, ρ, dv0 64, vs, _, rfl, Nat.zero_le _, Nat.zero_le _, HM2.out, calm_new 64, List.length_replicate, HMAY.out, fun n hn => ?_⟩
        rw [if_pos hn, cur_new (by omega) (by omega)]
      case round =>
        clear HMAY HM2
        obtain ⟨i, ρi, di, vs, f, rfl, hi, hi60, hmi, hci, hli, hmay, hf⟩ := hrel
        have HMI := hid hmi
        have HCI := hid hci
        have HLI := hid hli
        have HMAY := hid hmay
        have HF := hid hf
        have HXW := hid (HX1.out.trans hmi.ex)
        clear hmi hci hli hmay hf
        have hex : (i < first.length ∧ i < 60) ∨ ¬ i < first.length ∨ (i < first.length ∧ ¬ i < 60) := by omega
        rcases hex with ⟨hlt, hl60⟩ | hex
        · have i1 : (i : Int) < (first.length : Int) := by omega
          have i2 : (i : Int) < 60 := by omega
          have hw1 : IntKind.i64.wrap ((i : Int) + 1) = (i : Int) + 1 := by rw [IntKind.wrap_i64]; omega
          obtain ⟨gc, oc, cc, pv, e, hgc, -, -, -, d2, d3, d4, -, -, b2, b3, -, -⟩ := (HV1.out.ext HXW.out).atCall2 i hlt
          simp only [Value.slice.injEq] at e
          obtain ⟨rfl, -, rfl⟩ := e
          generalize first[i] = c at d2 d3 d4 b2 b3
          obtain ⟨c1, c2, cn, cf, ch, cp⟩ := c
          dsimp only at d2 d3 d4 b2 b3
          go_wp2_with fail
          refine (Pick_any _ cn 64 b2 (by omega) (by omega)).mono ?_
          rintro e w' ⟨rfl, rfl⟩
          have hpl := pickF_lt cn (64 : Int).toNat (by decide)
          generalize pickF cn (64 : Int).toNat = nn at hpl ⊢
          have hpl : nn < 64 := hpl
          clear d2
          go_wp2_with fail
          have hxd : Ext wr wr.drew := by (· repeat (first | (with_reducible assumption) | exact Ext.refl _ | refine Ext.alloc ?_ _ | refine Ext.drew ?_ | refine Ext.drewN ?_ _ | (apply Ext.snart; (with_reducible assumption))))
          refine wp_region_T (fun w' => w'.cell? ⟨gc, oc + i * 6 + 3, none⟩ = some (.int .i64 cf) ∧ w'.cell? ⟨gc, oc + i * 6 + 4, none⟩ = some (.string ch)) [11] (by kernel_rfl) ⟨Ext.cellS hxd d3, Ext.cellS hxd d4⟩ (fun hS => ?_)
          (refine wpAnyT_take (i := 0) (v := ?_) rfl (by kernel_rfl) (by kernel_rfl) (by kernel_rfl) (by kernel_rfl) (fun _ _ _ h => h) (Or.inl ⟨by rfl, ?_⟩) (by assumption) ?_; rotate_left; ((intro wS hSw; (try dsimp only at hSw); (try simp only [List.getElem_toArray, List.getElem_cons_zero, List.getElem_cons_succ]); go_simp); (try with_reducible rfl)); (try simp only [Act.put, List.getElem_toArray, List.getElem_cons_zero, List.getElem_cons_succ, List.setIfInBounds_toArray, List.set_cons_zero, List.set_cons_succ]))
          (refine wpAnyT_take (i := 1) (v := ?_) rfl (by kernel_rfl) (by kernel_rfl) (by kernel_rfl) (by kernel_rfl) (fun _ _ _ h => h) (Or.inl ⟨by rfl, ?_⟩) (by assumption) ?_; rotate_left; ((intro wS hSw; (try dsimp only at hSw); (try simp only [List.getElem_toArray, List.getElem_cons_zero, List.getElem_cons_succ]); go_simp); (try with_reducible rfl)); (try simp only [Act.put, List.getElem_toArray, List.getElem_cons_zero, List.getElem_cons_succ, List.setIfInBounds_toArray, List.set_cons_zero, List.set_cons_succ]))
          (refine wpAnyT_take (i := 2) (v := ?_) rfl (by kernel_rfl) (by kernel_rfl) (by kernel_rfl) (by kernel_rfl) (fun _ _ _ h => h) (Or.inl ⟨by rfl, ?_⟩) (by assumption) ?_; rotate_left; ((intro wS hSw; (try dsimp only at hSw); (try simp only [List.getElem_toArray, List.getElem_cons_zero, List.getElem_cons_succ]); go_simp); (try with_reducible rfl)); (try simp only [Act.put, List.getElem_toArray, List.getElem_cons_zero, List.getElem_cons_succ, List.setIfInBounds_toArray, List.set_cons_zero, List.set_cons_succ]))
          (refine wpAnyT_take (i := 3) (v := ?_) rfl (by kernel_rfl) (by kernel_rfl) (by kernel_rfl) (by kernel_rfl) (fun _ _ _ h => h) (Or.inl ⟨by rfl, ?_⟩) (by assumption) ?_; rotate_left; ((intro wS hSw; (try dsimp only at hSw); (try simp only [List.getElem_toArray, List.getElem_cons_zero, List.getElem_cons_succ]); go_simp); (try with_reducible rfl)); (try simp only [Act.put, List.getElem_toArray, List.getElem_cons_zero, List.getElem_cons_succ, List.setIfInBounds_toArray, List.set_cons_zero, List.set_cons_succ]))
          (refine wpAnyT_take (i := 4) (v := ?_) rfl (by kernel_rfl) (by kernel_rfl) (by kernel_rfl) (by kernel_rfl) (fun _ _ _ h => h) (Or.inl ⟨by rfl, ?_⟩) (by assumption) ?_; rotate_left; ((intro wS hSw; (try dsimp only at hSw); (try simp only [List.getElem_toArray, List.getElem_cons_zero, List.getElem_cons_succ]); go_simp); (try with_reducible rfl)); (try simp only [Act.put, List.getElem_toArray, List.getElem_cons_zero, List.getElem_cons_succ, List.setIfInBounds_toArray, List.set_cons_zero, List.set_cons_succ]))
          (refine wpAnyT_take (i := 5) (v := ?_) rfl (by kernel_rfl) (by kernel_rfl) (by kernel_rfl) (by kernel_rfl) (fun _ _ _ h => h) (Or.inl ⟨by rfl, ?_⟩) (by assumption) ?_; rotate_left; ((intro wS hSw; (try dsimp only at hSw); (try simp only [List.getElem_toArray, List.getElem_cons_zero, List.getElem_cons_succ]); go_simp); (try with_reducible rfl)); (try simp only [Act.put, List.getElem_toArray, List.getElem_cons_zero, List.getElem_cons_succ, List.setIfInBounds_toArray, List.set_cons_zero, List.set_cons_succ]))
          (refine wpAnyT_take (i := 6) (v := ?_) rfl (by kernel_rfl) (by kernel_rfl) (by kernel_rfl) (by kernel_rfl) (fun _ _ _ h => h) (Or.inl ⟨by rfl, ?_⟩) (by assumption) ?_; rotate_left; ((intro wS hSw; (try dsimp only at hSw); (try simp only [List.getElem_toArray, List.getElem_cons_zero, List.getElem_cons_succ]); go_simp); (try with_reducible rfl)); (try simp only [Act.put, List.getElem_toArray, List.getElem_cons_zero, List.getElem_cons_succ, List.setIfInBounds_toArray, List.set_cons_zero, List.set_cons_succ]))
          (refine wpAnyT_take (i := 7) (v := ?_) rfl (by kernel_rfl) (by kernel_rfl) (by kernel_rfl) (by kernel_rfl) (fun _ _ _ h => h) (Or.inl ⟨by rfl, ?_⟩) (by assumption) ?_; rotate_left; ((intro wS hSw; (try dsimp only at hSw); (try simp only [List.getElem_toArray, List.getElem_cons_zero, List.getElem_cons_succ]); go_simp); (try with_reducible rfl)); (try simp only [Act.put, List.getElem_toArray, List.getElem_cons_zero, List.getElem_cons_succ, List.setIfInBounds_toArray, List.set_cons_zero, List.set_cons_succ]))
          (refine wpAnyT_take (i := 8) (v := ?_) rfl (by kernel_rfl) (by kernel_rfl) (by kernel_rfl) (by kernel_rfl) (fun _ _ _ h => h) (Or.inl ⟨by rfl, ?_⟩) (by assumption) ?_; rotate_left; ((intro wS hSw; (try dsimp only at hSw); (try simp only [List.getElem_toArray, List.getElem_cons_zero, List.getElem_cons_succ]); go_simp); (try with_reducible rfl)); (try simp only [Act.put, List.getElem_toArray, List.getElem_cons_zero, List.getElem_cons_succ, List.setIfInBounds_toArray, List.set_cons_zero, List.set_cons_succ]))
          (refine wpAnyT_take (i := 9) (v := ?_) rfl (by kernel_rfl) (by kernel_rfl) (by kernel_rfl) (by kernel_rfl) (fun _ _ _ h => h) (Or.inl ⟨by rfl, ?_⟩) (by assumption) ?_; rotate_left; ((intro wS hSw; (try dsimp only at hSw); (try simp only [List.getElem_toArray, List.getElem_cons_zero, List.getElem_cons_succ]); go_simp); (try with_reducible rfl)); (try simp only [Act.put, List.getElem_toArray, List.getElem_cons_zero, List.getElem_cons_succ, List.setIfInBounds_toArray, List.set_cons_zero, List.set_cons_succ]))
          refine wpAnyT_all (rs := [10]) (by kernel_rfl) (by decide) (AllT.consS rfl (fun K hK => ?_) AllT.nil)
          go_simp
          go_at_call 28
          refine (Block_any wr.drew cf b3 ch).mono ?_
          rintro e w3 ⟨rfl, hr3, hx3⟩
          have hxb : Ext wr w3 := hxd.trans hx3
          have hb3 : RdB w3 (.slice (some ⟨wr.heap.size, 0, none⟩) 512 512) (blockL cf ch) := row_rdB hr3 (blockL_len _ _)
          have hk3 : wr.heap.size < w3.heap.size := (Array.getElem?_eq_some_iff.1 hr3).1
          clear hr3 hx3
          (refine hK.out _ _ (⟨Ext.cellS hxb d3, Ext.cellS hxb d4⟩) (fun hS => ?_); clear hK K)
          refine wpAnyT_all (rs := [11]) (by kernel_rfl) (by decide) (AllT.consF rfl rfl (fun K hK => ?_) AllT.nil)
          go_simp
          (refine hK.out _ _ ?_; clear hK K)
          refine wpAnyT_done (by kernel_rfl) (NoPanic.normal ?_) _
          have hbl : (blockL cf ch).length = 512 := blockL_len _ _
          generalize blockL cf ch = data at hb3 hbl
          have HB3 := hid hb3
          have HBL := hid hbl
          have HM3 := hid (HMI.out.ext hxb)
          have HMAY3 := hid (HMAY.out.ext hxb)
          have hlate3 : ∀ k, wr.heap.size ≤ k → ρi k = none := fun k hk => HMI.out.late (Ext.refl _) hk
          have HLATE := hid hlate3
          clear hb3 hbl hlate3 d3 d4 hS hxd hxb
          go_wp2_with fail
          refine (MWriteC HM3.out (by omega) HCI.out nn (by rw [HLI.out]; omega) _ data HB3.out (fun k hk => HLATE.out k (by simp only [Value.ownBlock, Option.some.injEq] at hk; omega)) HBL.out).mono ?_
          rintro e w4 ⟨rfl, ρ4, d4, hm4, hc4, hwr4, hk4, hr4⟩
          have hmay4 := HMAY3.out.past hk4 hr4
          have hb4 : RdB w4 (.slice (some ⟨wr.heap.size, 0, none⟩) 512 512) data := Rd.carry HB3.out hk4.size fun k hk hl => hk4.block k (HLATE.out k (by simp only [Value.ownBlock, Option.some.injEq] at hk; omega)) hl
          have s1 := run_strB hb4
          have hbr := strRow w4 ⟨data.toArray⟩
          have hnew := hmay4.one hpl (b := data) HBL.out hm4.ex.size (fun k hk => hm4.late (Ext.refl _) hk)
          have c1 : (w4.alloc (.cells #[.string ⟨data.toArray⟩] 9)).cell? ⟨z, nn, none⟩ = some (vs nn) := by
            rw [cell_of_row _ _ _ _ _ _ (row_ext ((Ext.refl _).alloc _) hmay4.row), arrV_get _ _ hpl]
          have f1 := blk_fro (row_ext ((Ext.refl w4).alloc (.cells #[.string ⟨data.toArray⟩] 9)) hmay4.row) nn
          have hzl := hmay4.zlt
          have i3 : (nn : Int) < 64 := by omega
          have hmz : Mine w1 ((w4.alloc (.cells #[.string ⟨data.toArray⟩] 9)).setCell ⟨z, nn, none⟩ (.slice (some ⟨w4.heap.size, 0, none⟩) 1 1)) g ρ4 (2 * i + 2) d4 := by
            refine (hm4.ext ((Ext.refl w4).alloc (.cells #[.string ⟨data.toArray⟩] 9))).kept2 ((Keep.refl _ _).setCell ?_ _)
            rintro (h | h)
            · exact h hmay4.rol
            · have h : z < w1.heap.size := h
              have := HM.out.ex.size; omega
          rw [World.setCell_alloc_past _ _ _ _ hzl] at hnew hmz
          have HNEW := hid hnew
          have HM4 := hid hmz
          have HC4 := hid hc4
          have HWR := hid hwr4
          clear hm4 hc4 hwr4 hk4 hr4 hmay4 hb4 hnew hmz
          go_wp2_with fail
          refine ⟨⟨i + 1, ρ4, d4, _, _, rfl, by omega, by omega, HM4.out.mono (by omega), HC4.out, HWR.out.len.trans HLI.out, HNEW.out, fun n hn => ?_⟩, by simp only [intOf]; omega⟩
          rw [HWR.out.cur]
          by_cases e : n = nn
          · subst e; simp
          · rw [if_neg e, if_neg (by omega)]; exact HF.out n hn
        · rcases hex with hn1 | ⟨hn1, hn2⟩
          all_goals
            first | (have i1 : ¬ (i : Int) < (first.length : Int) := by omega) | skip
            first | (have i1 : (i : Int) < (first.length : Int) := by omega) | skip
            first | (have i2 : ¬ (i : Int) < 60 := by omega) | skip
            go_wp2_with fail
            refine (MFlushC HMI.out (by omega) HCI.out).mono ?_
            rintro e w5 ⟨rfl, ρ5, d5, hm5, hc5, hfl5, hk5, hr5⟩
            have HMAY5 := hid (HMAY.out.past hk5 hr5)
            have HM5 := hid hm5
            have HC5 := hid hc5
            have HL5 := hid (hfl5.len.trans HLI.out)
            have hf5 : ∀ n : Nat, n < 64 → f n = d5.safe.getD n zb :: d5.pend n := fun n hn => by
              rw [HF.out n hn, ← hfl5.cur n (by omega) (by rw [HLI.out]; omega)]
              unfold curF
              rw [hfl5.still n]
              rfl
            have HF5 := hid hf5
            have HST := hid hfl5.still
            clear hm5 hc5 hfl5 hk5 hr5 hf5 HMI HCI HLI HMAY HF i1
            go_wp2_with fail
            go_loopw [15] (fun u15 wq => ∃ (i : Nat) (ρi : Nat → Option DRol) (di : Dv) (vs : Nat → Value) (f : Nat → List Bk), u15 = .int .i64 i ∧ i ≤ then'.length ∧ i ≤ 60 ∧ Mine w1 wq g ρi (200 + 2 * i) di ∧ Calm di ∧ di.safe.length = 64 ∧ MayAt wq ρi z w1.heap.size vs f ∧ (∀ n : Nat, n < 64 → f n = di.safe.getD n zb :: di.pend n) ∧ ∀ n : Nat, n < 64 → (f n).length ≤ 1 + i) (fun u15 _ => 60 - (intOf u15).toNat)
            case atStart =>
              refine ⟨0, ρ5, d5, vs, f, rfl, Nat.zero_le _, Nat.zero_le _, HM5.out.mono (by omega), HC5.out, HL5.out, HMAY5.out, HF5.out, fun n hn => ?_⟩
              rw [HF5.out n hn, HST.out]; simp
            case round =>
              clear HM5 HC5 HL5 HMAY5 HF5 HST
              obtain ⟨i, ρi, di, vs, f, rfl, hi, hi60, hmi, hci, hli, hmay, hf, hlen⟩ := hrel
              have HMI := hid hmi
              have HCI := hid hci
              have HLI := hid hli
              have HMAY := hid hmay
              have HF := hid hf
              have HLEN := hid hlen
              have HXW := hid (HX1.out.trans hmi.ex)
              clear hmi hci hli hmay hf hlen
              have hex : (i < then'.length ∧ i < 60) ∨ ¬ i < then'.length ∨ (i < then'.length ∧ ¬ i < 60) := by omega
              rcases hex with ⟨hlt, hl60⟩ | hex
              · have i1 : (i : Int) < (then'.length : Int) := by omega
                have i2 : (i : Int) < 60 := by omega
                have hw1 : IntKind.i64.wrap ((i : Int) + 1) = (i : Int) + 1 := by rw [IntKind.wrap_i64]; omega
                obtain ⟨gc, oc, cc, pv, e, hgc, -, -, -, d2, d3, d4, -, -, b2, b3, -, -⟩ := (HV2.out.ext HXW.out).atCall2 i hlt
                simp only [Value.slice.injEq] at e
                obtain ⟨rfl, -, rfl⟩ := e
                generalize then'[i] = c at d2 d3 d4 b2 b3
                obtain ⟨c1, c2, cn, cf, ch, cp⟩ := c
                dsimp only at d2 d3 d4 b2 b3
                go_wp2_with fail
                refine (Pick_any _ cn 64 b2 (by omega) (by omega)).mono ?_
                rintro e w' ⟨rfl, rfl⟩
                have hpl := pickF_lt cn (64 : Int).toNat (by decide)
                generalize pickF cn (64 : Int).toNat = nn at hpl ⊢
                have hpl : nn < 64 := hpl
                clear d2
                go_wp2_with fail
                have hxd : Ext wr wr.drew := by (· repeat (first | (with_reducible assumption) | exact Ext.refl _ | refine Ext.alloc ?_ _ | refine Ext.drew ?_ | refine Ext.drewN ?_ _ | (apply Ext.snart; (with_reducible assumption))))
                refine wp_region_T (fun w' => w'.cell? ⟨gc, oc + i * 6 + 3, none⟩ = some (.int .i64 cf) ∧ w'.cell? ⟨gc, oc + i * 6 + 4, none⟩ = some (.string ch)) [11] (by kernel_rfl) ⟨Ext.cellS hxd d3, Ext.cellS hxd d4⟩ (fun hS => ?_)
                (refine wpAnyT_take (i := 0) (v := ?_) rfl (by kernel_rfl) (by kernel_rfl) (by kernel_rfl) (by kernel_rfl) (fun _ _ _ h => h) (Or.inl ⟨by rfl, ?_⟩) (by assumption) ?_; rotate_left; ((intro wS hSw; (try dsimp only at hSw); (try simp only [List.getElem_toArray, List.getElem_cons_zero, List.getElem_cons_succ]); go_simp); (try with_reducible rfl)); (try simp only [Act.put, List.getElem_toArray, List.getElem_cons_zero, List.getElem_cons_succ, List.setIfInBounds_toArray, List.set_cons_zero, List.set_cons_succ]))
                (refine wpAnyT_take (i := 1) (v := ?_) rfl (by kernel_rfl) (by kernel_rfl) (by kernel_rfl) (by kernel_rfl) (fun _ _ _ h => h) (Or.inl ⟨by rfl, ?_⟩) (by assumption) ?_; rotate_left; ((intro wS hSw; (try dsimp only at hSw); (try simp only [List.getElem_toArray, List.getElem_cons_zero, List.getElem_cons_succ]); go_simp); (try with_reducible rfl)); (try simp only [Act.put, List.getElem_toArray, List.getElem_cons_zero, List.getElem_cons_succ, List.setIfInBounds_toArray, List.set_cons_zero, List.set_cons_succ]))
                (refine wpAnyT_take (i := 2) (v := ?_) rfl (by kernel_rfl) (by kernel_rfl) (by kernel_rfl) (by kernel_rfl) (fun _ _ _ h => h) (Or.inl ⟨by rfl, ?_⟩) (by assumption) ?_; rotate_left; ((intro wS hSw; (try dsimp only at hSw); (try simp only [List.getElem_toArray, List.getElem_cons_zero, List.getElem_cons_succ]); go_simp); (try with_reducible rfl)); (try simp only [Act.put, List.getElem_toArray, List.getElem_cons_zero, List.getElem_cons_succ, List.setIfInBounds_toArray, List.set_cons_zero, List.set_cons_succ]))
                (refine wpAnyT_take (i := 3) (v := ?_) rfl (by kernel_rfl) (by kernel_rfl) (by kernel_rfl) (by kernel_rfl) (fun _ _ _ h => h) (Or.inl ⟨by rfl, ?_⟩) (by assumption) ?_; rotate_left; ((intro wS hSw; (try dsimp only at hSw); (try simp only [List.getElem_toArray, List.getElem_cons_zero, List.getElem_cons_succ]); go_simp); (try with_reducible rfl)); (try simp only [Act.put, List.getElem_toArray, List.getElem_cons_zero, List.getElem_cons_succ, List.setIfInBounds_toArray, List.set_cons_zero, List.set_cons_succ]))
                (refine wpAnyT_take (i := 4) (v := ?_) rfl (by kernel_rfl) (by kernel_rfl) (by kernel_rfl) (by kernel_rfl) (fun _ _ _ h => h) (Or.inl ⟨by rfl, ?_⟩) (by assumption) ?_; rotate_left; ((intro wS hSw; (try dsimp only at hSw); (try simp only [List.getElem_toArray, List.getElem_cons_zero, List.getElem_cons_succ]); go_simp); (try with_reducible rfl)); (try simp only [Act.put, List.getElem_toArray, List.getElem_cons_zero, List.getElem_cons_succ, List.setIfInBounds_toArray, List.set_cons_zero, List.set_cons_succ]))
                (refine wpAnyT_take (i := 5) (v := ?_) rfl (by kernel_rfl) (by kernel_rfl) (by kernel_rfl) (by kernel_rfl) (fun _ _ _ h => h) (Or.inl ⟨by rfl, ?_⟩) (by assumption) ?_; rotate_left; ((intro wS hSw; (try dsimp only at hSw); (try simp only [List.getElem_toArray, List.getElem_cons_zero, List.getElem_cons_succ]); go_simp); (try with_reducible rfl)); (try simp only [Act.put, List.getElem_toArray, List.getElem_cons_zero, List.getElem_cons_succ, List.setIfInBounds_toArray, List.set_cons_zero, List.set_cons_succ]))
                (refine wpAnyT_take (i := 6) (v := ?_) rfl (by kernel_rfl) (by kernel_rfl) (by kernel_rfl) (by kernel_rfl) (fun _ _ _ h => h) (Or.inl ⟨by rfl, ?_⟩) (by assumption) ?_; rotate_left; ((intro wS hSw; (try dsimp only at hSw); (try simp only [List.getElem_toArray, List.getElem_cons_zero, List.getElem_cons_succ]); go_simp); (try with_reducible rfl)); (try simp only [Act.put, List.getElem_toArray, List.getElem_cons_zero, List.getElem_cons_succ, List.setIfInBounds_toArray, List.set_cons_zero, List.set_cons_succ]))
                (refine wpAnyT_take (i := 7) (v := ?_) rfl (by kernel_rfl) (by kernel_rfl) (by kernel_rfl) (by kernel_rfl) (fun _ _ _ h => h) (Or.inl ⟨by rfl, ?_⟩) (by assumption) ?_; rotate_left; ((intro wS hSw; (try dsimp only at hSw); (try simp only [List.getElem_toArray, List.getElem_cons_zero, List.getElem_cons_succ]); go_simp); (try with_reducible rfl)); (try simp only [Act.put, List.getElem_toArray, List.getElem_cons_zero, List.getElem_cons_succ, List.setIfInBounds_toArray, List.set_cons_zero, List.set_cons_succ]))
                (refine wpAnyT_take (i := 8) (v := ?_) rfl (by kernel_rfl) (by kernel_rfl) (by kernel_rfl) (by kernel_rfl) (fun _ _ _ h => h) (Or.inl ⟨by rfl, ?_⟩) (by assumption) ?_; rotate_left; ((intro wS hSw; (try dsimp only at hSw); (try simp only [List.getElem_toArray, List.getElem_cons_zero, List.getElem_cons_succ]); go_simp); (try with_reducible rfl)); (try simp only [Act.put, List.getElem_toArray, List.getElem_cons_zero, List.getElem_cons_succ, List.setIfInBounds_toArray, List.set_cons_zero, List.set_cons_succ]))
                (refine wpAnyT_take (i := 9) (v := ?_) rfl (by kernel_rfl) (by kernel_rfl) (by kernel_rfl) (by kernel_rfl) (fun _ _ _ h => h) (Or.inl ⟨by rfl, ?_⟩) (by assumption) ?_; rotate_left; ((intro wS hSw; (try dsimp only at hSw); (try simp only [List.getElem_toArray, List.getElem_cons_zero, List.getElem_cons_succ]); go_simp); (try with_reducible rfl)); (try simp only [Act.put, List.getElem_toArray, List.getElem_cons_zero, List.getElem_cons_succ, List.setIfInBounds_toArray, List.set_cons_zero, List.set_cons_succ]))
                refine wpAnyT_all (rs := [10]) (by kernel_rfl) (by decide) (AllT.consS rfl (fun K hK => ?_) AllT.nil)
                go_simp
                go_at_call 28
                refine (Block_any wr.drew cf b3 ch).mono ?_
                rintro e w3 ⟨rfl, hr3, hx3⟩
                have hxb : Ext wr w3 := hxd.trans hx3
                have hb3 : RdB w3 (.slice (some ⟨wr.heap.size, 0, none⟩) 512 512) (blockL cf ch) := row_rdB hr3 (blockL_len _ _)
                have hk3 : wr.heap.size < w3.heap.size := (Array.getElem?_eq_some_iff.1 hr3).1
                clear hr3 hx3
                (refine hK.out _ _ (⟨Ext.cellS hxb d3, Ext.cellS hxb d4⟩) (fun hS => ?_); clear hK K)
                refine wpAnyT_all (rs := [11]) (by kernel_rfl) (by decide) (AllT.consF rfl rfl (fun K hK => ?_) AllT.nil)
                go_simp
                (refine hK.out _ _ ?_; clear hK K)
                refine wpAnyT_done (by kernel_rfl) (NoPanic.normal ?_) _
                have hbl : (blockL cf ch).length = 512 := blockL_len _ _
                generalize blockL cf ch = data at hb3 hbl
                have HB3 := hid hb3
                have HBL := hid hbl
                have HM3 := hid (HMI.out.ext hxb)
                have HMAY3 := hid (HMAY.out.ext hxb)
                have hlate3 : ∀ k, wr.heap.size ≤ k → ρi k = none := fun k hk => HMI.out.late (Ext.refl _) hk
                have HLATE := hid hlate3
                clear hb3 hbl hlate3 d3 d4 hS hxd hxb
                go_wp2_with fail
                refine (MWriteC HM3.out (by omega) HCI.out nn (by rw [HLI.out]; omega) _ data HB3.out (fun k hk => HLATE.out k (by simp only [Value.ownBlock, Option.some.injEq] at hk; omega)) HBL.out).mono ?_
                rintro e w4 ⟨rfl, ρ4, d4, hm4, hc4, hwr4, hk4, hr4⟩
                have hmay4 := HMAY3.out.past hk4 hr4
                have hb4 : RdB w4 (.slice (some ⟨wr.heap.size, 0, none⟩) 512 512) data := Rd.carry HB3.out hk4.size fun k hk hl => hk4.block k (HLATE.out k (by simp only [Value.ownBlock, Option.some.injEq] at hk; omega)) hl
                obtain ⟨ra, rc, hrv⟩ := (hmay4.own nn hpl).slice
                rw [List.length_map] at hrv
                have HRV := hid hrv
                have c1 : w4.cell? ⟨z, nn, none⟩ = some (.slice ra (f nn).length rc) := by
                  rw [cell_of_row _ _ _ _ _ _ hmay4.row, arrV_get _ _ hpl, HRV.out]
                have i3 : (nn : Int) < 64 := by omega
                have hln := HLEN.out nn hpl
                have hbk : ∀ k, (vs nn).ownBlock = some k → k < wr.heap.size := fun k hk => ((HMAY.out.own nn hpl).lt k hk).2
                have hlt4 : ∀ k, w4.heap.size ≤ k → ρ4 k = none := fun k hk => hm4.late (Ext.refl _) hk
                have hoff := hmay4.off nn hpl
                have hzl := hmay4.zlt
                have hzw := hm4.ex.size
                have hsz34 := hk4.size
                have HMAY4 := hid hmay4
                have HB4 := hid hb4
                have HM4 := hid hm4
                have HC4 := hid hc4
                have HWR := hid hwr4
                have HBK := hid hbk
                have HLT4 := hid hlt4
                have HBB := hid (fun k (hk : (vs nn).ownBlock = some k) => ((HMAY.out.own nn hpl).lt k hk).1)
                have HOFF := hid hoff
                clear hrv hmay4 hb4 hm4 hc4 hwr4 hk4 hr4 hbk hlt4 hoff HMAY HM3 HMAY3 HMI
                go_wp2_with fail
                have hxd : Ext w4 w4.drew := by (· repeat (first | (with_reducible assumption) | exact Ext.refl _ | refine Ext.alloc ?_ _ | refine Ext.drew ?_ | refine Ext.drewN ?_ _ | (apply Ext.snart; (with_reducible assumption))))
                refine wp_region_L (fun w' => w'.cell? ⟨z, nn, none⟩ = some (.slice ra (f nn).length rc) ∧ (convert 22 9 (.slice (some ⟨wr.heap.size, 0, none⟩) 512 512)).run Try.prog w' = .ok (.string ⟨data.toArray⟩) w') 9 (by kernel_rfl) ⟨Ext.cellS hxd c1, run_strB (HB4.out.ext hxd)⟩ (fun hS => ?_)
                (refine wpAnyL_take (i := 0) (v := ?_) rfl (by kernel_rfl) (by kernel_rfl) (by kernel_rfl) (by kernel_rfl) (fun _ _ _ h => h) (Or.inl ⟨by rfl, ?_⟩) (by assumption) ?_; rotate_left; ((intro wS hSw; (try dsimp only at hSw); (try simp only [List.getElem_toArray, List.getElem_cons_zero, List.getElem_cons_succ]); go_simp); (try with_reducible rfl)); (try simp only [Act.put, List.getElem_toArray, List.getElem_cons_zero, List.getElem_cons_succ, List.setIfInBounds_toArray, List.set_cons_zero, List.set_cons_succ]))
                (refine wpAnyL_take (i := 1) (v := ?_) rfl (by kernel_rfl) (by kernel_rfl) (by kernel_rfl) (by kernel_rfl) (fun _ _ _ h => h) (Or.inl ⟨by rfl, ?_⟩) (by assumption) ?_; rotate_left; ((intro wS hSw; (try dsimp only at hSw); (try simp only [List.getElem_toArray, List.getElem_cons_zero, List.getElem_cons_succ]); go_simp); (try with_reducible rfl)); (try simp only [Act.put, List.getElem_toArray, List.getElem_cons_zero, List.getElem_cons_succ, List.setIfInBounds_toArray, List.set_cons_zero, List.set_cons_succ]))
                (refine wpAnyL_take (i := 2) (v := ?_) rfl (by kernel_rfl) (by kernel_rfl) (by kernel_rfl) (by kernel_rfl) (fun _ _ _ h => h) (Or.inl ⟨by rfl, ?_⟩) (by assumption) ?_; rotate_left; ((intro wS hSw; (try dsimp only at hSw); (try simp only [List.getElem_toArray, List.getElem_cons_zero, List.getElem_cons_succ]); go_simp); (try with_reducible rfl)); (try simp only [Act.put, List.getElem_toArray, List.getElem_cons_zero, List.getElem_cons_succ, List.setIfInBounds_toArray, List.set_cons_zero, List.set_cons_succ]))
                (refine wpAnyL_take (i := 3) (v := ?_) rfl (by kernel_rfl) (by kernel_rfl) (by kernel_rfl) (by kernel_rfl) (fun _ _ _ h => h) (Or.inl ⟨by rfl, ?_⟩) (by assumption) ?_; rotate_left; ((intro wS hSw; (try dsimp only at hSw); (try simp only [List.getElem_toArray, List.getElem_cons_zero, List.getElem_cons_succ]); go_simp); (try with_reducible rfl)); (try simp only [Act.put, List.getElem_toArray, List.getElem_cons_zero, List.getElem_cons_succ, List.setIfInBounds_toArray, List.set_cons_zero, List.set_cons_succ]))
                (refine wpAnyL_take (i := 4) (v := ?_) rfl (by kernel_rfl) (by kernel_rfl) (by kernel_rfl) (by kernel_rfl) (fun _ _ _ h => h) (Or.inl ⟨by rfl, ?_⟩) (by assumption) ?_; rotate_left; ((intro wS hSw; (try dsimp only at hSw); (try simp only [List.getElem_toArray, List.getElem_cons_zero, List.getElem_cons_succ]); go_simp); (try with_reducible rfl)); (try simp only [Act.put, List.getElem_toArray, List.getElem_cons_zero, List.getElem_cons_succ, List.setIfInBounds_toArray, List.set_cons_zero, List.set_cons_succ]))
                (refine wpAnyL_take (i := 5) (v := ?_) rfl (by kernel_rfl) (by kernel_rfl) (by kernel_rfl) (by kernel_rfl) (fun _ _ _ h => h) (Or.inl ⟨by rfl, ?_⟩) (by assumption) ?_; rotate_left; ((intro wS hSw; (try dsimp only at hSw); (try simp only [List.getElem_toArray, List.getElem_cons_zero, List.getElem_cons_succ]); go_simp); (try with_reducible rfl)); (try simp only [Act.put, List.getElem_toArray, List.getElem_cons_zero, List.getElem_cons_succ, List.setIfInBounds_toArray, List.set_cons_zero, List.set_cons_succ]))
                (refine wpAnyL_one (i := 6) (by kernel_rfl) rfl (fun K hK => ?_))
                go_simp
                have hxA : Ext w4 (w4.drew.alloc (.cells #[.string ⟨data.toArray⟩] 9)) := by (· repeat (first | (with_reducible assumption) | exact Ext.refl _ | refine Ext.alloc ?_ _ | refine Ext.drew ?_ | refine Ext.drewN ?_ _ | (apply Ext.snart; (with_reducible assumption))))
                (refine hK.out _ _ (fun _ => ⟨Ext.cellS hxA c1, run_strB (HB4.out.ext hxA)⟩) (fun hS => ?_); clear hK K)
                have hS := hS (by decide)
                (refine wpAnyL_one (i := 7) (by kernel_rfl) rfl (fun K hK => ?_))
                refine step_appSt rfl _ _ rfl w1.heap.size (Nat.le_trans hzw hxA.size) (.slice ra (f nn).length rc) (f nn) rfl ?_ data HBL.out _ rfl (heap_alloc_new _ _) ?_ ?_
                · rw [← HRV.out]; exact (HMAY4.out.own nn hpl).ext hxA
                · omega
                intro v6 w6 k1 k2 k3
                obtain ⟨a6, c6, rfl⟩ := k1.slice
                rw [show ((f nn ++ [data]).map B2).length = (f nn).length + 1 by simp] at k1 k3 ⊢
                rw [← HRV.out] at k2 k3
                have hk6 : Keep (fun k => (vs nn).ownBlock ≠ some k) w4 w6 := (hxA.keep _).trans ((keep_grown k2).mono fun k hk _ e => hk e.symm)
                have hk3' : ∀ k, (Value.slice a6 ((f nn).length + 1) c6).ownBlock = some k → (vs nn).ownBlock = some k ∨ w4.heap.size ≤ k := fun k hk => (k3 k hk).imp id (fun h => Nat.le_trans hxA.size h)
                have hnew := HMAY4.out.put hpl hk6 k1 hk3' HLT4.out
                have hrz6 : w6.heap[z]? = _ := (hk6.block z (fun e => (HOFF.out z e).1 rfl) hzl).trans HMAY4.out.row
                have q1 : w6.cell? ⟨z, nn, none⟩ = some (.slice ra (f nn).length rc) := by rw [cell_of_row _ _ _ _ _ _ hrz6, arrV_get _ _ hpl, HRV.out]
                have q2 := run_strB (Rd.carry HB4.out hk6.size fun k hk hl => hk6.block k (fun e => by have := HBK.out k e; simp only [Value.ownBlock, Option.some.injEq] at hk; omega) hl)
                have q3 := blk_fro hrz6 nn
                have hmz : Mine w1 (w6.setCell ⟨z, nn, none⟩ (.slice a6 ((f nn).length + 1) c6)) g ρ4 (200 + 2 * i + 2) d4 := by
                  refine (HM4.out.kept2 (hk6.mono fun k hk hl e => ?_)).kept2 ((Keep.refl _ _).setCell ?_ _)
                  · rcases hk with h | h
                    · exact h (HOFF.out k e).2
                    · have := HBB.out k e; omega
                  · rintro (h | h)
                    · exact h HMAY4.out.rol
                    · have h : z < w1.heap.size := h
                      have := HM.out.ex.size; omega
                have HNEW := hid hnew
                have HMZ := hid hmz
                clear hk6 hk3' hnew hrz6 hmz k1 k2 k3
                (refine hK.out _ _ (fun _ => ⟨q1, q2⟩) (fun hS => ?_); clear hK K)
                have hS := hS (by decide)
                (refine wpAnyL_take (i := 8) (v := ?_) rfl (by kernel_rfl) (by kernel_rfl) (by kernel_rfl) (by kernel_rfl) (fun _ _ _ h => h) (Or.inl ⟨by rfl, ?_⟩) (by assumption) ?_; rotate_left; ((intro wS hSw; (try dsimp only at hSw); (try simp only [List.getElem_toArray, List.getElem_cons_zero, List.getElem_cons_succ]); go_simp); (try with_reducible rfl)); (try simp only [Act.put, List.getElem_toArray, List.getElem_cons_zero, List.getElem_cons_succ, List.setIfInBounds_toArray, List.set_cons_zero, List.set_cons_succ]))
                clear hS
                (refine wpAnyL_one (i := 9) (by kernel_rfl) rfl (fun K hK => ?_))
                go_simp
                (refine hK.out _ _ (fun h => absurd rfl h) (fun _ => ?_); clear hK K; refine wpAnyL_done (by kernel_rfl) ?_ _)
                refine NoPanic.normal ?_
                clear q1 q2 q3 c1 hxA
                go_wp2_with fail
                refine ⟨⟨i + 1, ρ4, d4, _, _, rfl, by omega, by omega, HMZ.out.mono (by omega), HC4.out, HWR.out.len.trans HLI.out, HNEW.out, fun n hn => ?_, fun n hn => ?_⟩, by simp only [intOf]; omega⟩
                · rw [HWR.out.safe, HWR.out.pend]
                  by_cases e : n = nn
                  · subst e; simp [setP, HF.out n hn]
                  · simp only [if_neg e, setP]; rw [if_neg (by omega)]; exact HF.out n hn
                · by_cases e : n = nn
                  · subst e; simp; omega
                  · simp only [if_neg e]; have := HLEN.out n hn; omega
              · rcases hex with hn1 | ⟨hn1, hn2⟩
                all_goals
                  first | (have i1 : ¬ (i : Int) < (then'.length : Int) := by omega) | skip
                  first | (have i1 : (i : Int) < (then'.length : Int) := by omega) | skip
                  first | (have i2 : ¬ (i : Int) < 60 := by omega) | skip
                  go_wp2_with fail
                  refine (MCrash HMI.out (by omega) (fun j => j < w.heap.size) _ picks (HV3.out.ext HXW.out) (fun j hj _ => by
                    by_cases e : ρi j = none
                    · exact e
                    · have := HMI.out.nw j e; have := HX1.out.size; omega)).mono ?_
                  rintro e w7 ⟨rfl, hm7, hk7⟩
                  obtain ⟨hu7, hs7, hf7, hl7⟩ := crash_up di picks
                  have hmem : ∀ n : Nat, n < 64 → curF (crashF di picks) n ∈ f n := fun n hn => by
                    rw [HF.out n hn]
                    rcases crash_mem di picks n with h | h
                    · rw [h]; exact List.mem_cons_self
                    · exact List.mem_cons_of_mem _ h
                  have hc7 := up_calm hu7 hf7
                  have hl7' := hl7.trans HLI.out
                  generalize crashF di picks = d7 at hm7 hc7 hs7 hl7' hmem
                  have HMAY7 := hid (HMAY.out.kept hk7)
                  have HM7 := hid hm7
                  have HC7 := hid hc7
                  have HS7 := hid hs7
                  have HL7 := hid hl7'
                  have HMEM := hid hmem
                  clear hm7 hk7 hu7 hs7 hf7 hl7 hmem hc7 hl7' HMI HCI HLI HMAY HF i1
                  go_wp2_with fail
                  go_loopw [18] (fun u18 wq => ∃ (i : Nat) (d' : Dv), u18 = .int .i64 i ∧ i ≤ 64 ∧ Mine w1 wq g ρi (400 + i) d' ∧ Calm d' ∧ Still d' ∧ d'.safe.length = 64 ∧ (∀ n, curF d' n = curF d7 n) ∧ MayAt wq ρi z w1.heap.size vs f) (fun u18 _ => 64 - (intOf u18).toNat)
                  case atStart => exact ⟨0, d7, rfl, Nat.zero_le _, HM7.out.mono (by omega), HC7.out, HS7.out, HL7.out, fun _ => rfl, HMAY7.out⟩
                  case round =>
                    clear HM7 HC7 HS7 HL7 HMAY7
                    obtain ⟨i, d', rfl, hi, hm, hc, hs, hl, hcu, hmay⟩ := hrel
                    have HM := hid hm
                    have HC := hid hc
                    have HS := hid hs
                    have HL := hid hl
                    have HCU := hid hcu
                    have HMAY := hid hmay
                    have HNG := hid (show ∀ j, ρi j = none → j ≠ g from fun j hj e => by
                      obtain ⟨_, _, _, h⟩ := hm.dv
                      rw [e, h.rg] at hj; cases hj)
                    clear hm hc hs hl hcu hmay
                    by_cases hlt : i < 64
                    · have i1 : (i : Int) < 64 := by omega
                      have hw1 : IntKind.i64.wrap ((i : Int) + 1) = (i : Int) + 1 := by rw [IntKind.wrap_i64]; omega
                      go_wp2_with fail
                      refine (MReadC HM.out (by omega) HC.out i (by rw [HL.out]; omega)).mono ?_
                      rintro e w8 ⟨kx, rfl, hkx, hrx, hxl, d8, hm8, hc8, hs8, hk8⟩
                      have hin := HMEM.out i hlt
                      rw [← HCU.out] at hin
                      generalize curF d' i = X at hrx hxl hin
                      have HB8 := hid (row_rdB hrx hxl)
                      have hmay8 := HMAY.out.kept (hk8.mono fun k hk _ => HNG.out k hk)
                      obtain ⟨ra, rc, hrv⟩ := (hmay8.own i hlt).slice
                      rw [List.length_map] at hrv
                      have HRV := hid hrv
                      have c1 : w8.cell? ⟨z, i, none⟩ = some (.slice ra (f i).length rc) := by
                        rw [cell_of_row _ _ _ _ _ _ hmay8.row, arrV_get _ _ hlt, HRV.out]
                      have C1 := hid c1
                      have HM8 := hid hm8
                      have HC8 := hid hc8
                      have HS8 := hid hs8
                      have HMAY8 := hid hmay8
                      have HIN := hid hin
                      clear hm8 hc8 hs8 hk8 hmay8 hrv c1 hin hrx
                      go_wp2_with fail
                      go_loopw [21, 22] (fun u21 u22 wp => ∃ (j : Nat), u21 = .bool (seenF (f i) j X) ∧ u22 = .int .i64 j ∧ j ≤ (f i).length ∧ Ext w8 wp) (fun _ u22 _ => (f i).length - (intOf u22).toNat)
                      case atStart => exact ⟨0, by rw [seenF_zero], rfl, Nat.zero_le _, Ext.refl _⟩
                      case round =>
                        obtain ⟨j, rfl, rfl, hj, hx5⟩ := hrel
                        have c1 := Ext.cellS hx5 C1.out
                        by_cases hlj : j < (f i).length
                        · obtain ⟨gr, or, cr, e', -, -, c2, -⟩ := (((HMAY8.out.own i hlt).ext hx5).rd).atS j (by rw [List.length_map]; exact hlj)
                          rw [HRV.out] at e'
                          simp only [Value.slice.injEq] at e'
                          obtain ⟨rfl, -, rfl⟩ := e'
                          rw [List.getElem_map] at c2
                          have hnext := seenF_next (f i) j X hlj
                          generalize (f i)[j] = Y at c2 hnext
                          generalize seenF (f i) j X = q at hnext ⊢
                          have HN := hid hnext
                          replace c2 : wr.cell? ⟨gr, or + j, none⟩ = some (.string ⟨Y.toArray⟩) := c2
                          have i1 : (j : Int) < ((f i).length : Int) := by omega
                          have hln := HLEN.out i hlt
                          have hw1 : IntKind.i64.wrap ((j : Int) + 1) = (j : Int) + 1 := by rw [IntKind.wrap_i64]; omega
                          have hsc := fun n => run_strB ((HB8.out.ext hx5).ext ((Ext.refl _).drewN n))
                          clear hnext
                          by_cases hb : Y = X <;> cases q
                          all_goals
                            go_wp2_with fail
                            go_quiet (fail)
                            go_wp2_with fail
                            refine ⟨⟨j + 1, ?_, rfl, by omega, ?_⟩, by simp only [intOf]; omega⟩
                            · rw [HN.out]; first | rfl | (simp [hb]; done) | (congr 1; rw [Bool.eq_iff_iff]; simp [hb]; done)
                            · (· repeat (first | (with_reducible assumption) | exact Ext.refl _ | refine Ext.alloc ?_ _ | refine Ext.drew ?_ | refine Ext.drewN ?_ _ | (apply Ext.snart; (with_reducible assumption))))
                        · have hie : j = (f i).length := by omega
                          subst hie
                          have i1 : ¬ (((f i).length : Nat) : Int) < ((f i).length : Int) := by omega
                          rw [seenF_all HIN.out]
                          have HXE := hid hx5
                          have hse := hx5.size
                          go_wp2_with fail
                          exact ⟨⟨i + 1, d8, rfl, by omega, (HM8.out.ext HXE.out).mono (by omega), HC8.out, HS8.out.still HS.out, HS8.out.len.trans HL.out, fun n => (HS8.out.cur n).trans (HCU.out n), HMAY8.out.ext HXE.out⟩, by simp only [intOf]; omega⟩
                    · have hie : i = 64 := by omega
                      subst hie
                      have i1 : ¬ (((64 : Nat) : Int) < 64) := by omega
                      go_wp2_with fail
                      refine (MPending HM.out (by omega)).mono ?_
                      rintro e w9 ⟨v, rfl, ho, hx9⟩
                      rw [pend_still HS.out] at ho
                      obtain ⟨a9, c9, rfl⟩ := ho.slice
                      have HX9 := hid (HX1.out.trans (HM.out.ex.trans hx9))
                      clear ho hx9
                      go_wp2_with fail
                      go_ret
                      exact ⟨rfl, HX9.out⟩
end Go.Proofs.Ytgbiffpnfpdcoaa
