/- cartularylaw04.JournalPuts, walked. -/
import Derived.Test.YtgbiffpnfpdcoaaJ7
namespace Go.Proofs.Ytgbiffpnfpdcoaa
open Go.RowKit Go.Maps
set_option linter.unusedVariables false
set_option linter.unusedSimpArgs false

theorem arr_one {w : World} {z i : Nat} {f : Nat → List UInt8} {t : TypeId} (h1 : w.heap[z]? = some (.cells (arrL f) t (0, 0))) (x : List UInt8) :
    (w.setCell ⟨z, i, none⟩ (.string ⟨x.toArray⟩)).heap[z]? = some (.cells (arrL fun j => if j = i then x else f j) t (0, 0)) ∧ Keep (fun k => k ≠ z) w (w.setCell ⟨z, i, none⟩ (.string ⟨x.toArray⟩)) := by
  have r1 := blk_set (o := i) h1 (.string ⟨x.toArray⟩)
  rw [arr_set] at r1
  exact ⟨r1, (Keep.refl _ _).setCell (by simp) _⟩
theorem withinF_one (p : One) : withinF [p] = [oneF p] := rfl
theorem cutTo_put (C : Int → Bk) (n : Nat) (hn : n < 44) (x : Bk) : (fun j => if j = n then x else cutTo C 44 j) = cutTo (fun i => if i = 20 + (n : Int) then x else C i) 44 := by
  funext j
  unfold cutTo
  by_cases h : j = n
  · subst h; rw [if_pos rfl, if_pos hn]; exact (if_pos rfl).symm
  · rw [if_neg h]
    by_cases h4 : j < 44
    · rw [if_pos h4, if_pos h4]; exact (if_neg (by omega)).symm
    · rw [if_neg h4, if_neg h4]
theorem infoOne : (Try.prog.info? 131).map (·.size) = some 3 := by kernel_rfl

set_option maxRecDepth 100000 in
set_option maxHeartbeats 8000000 in
theorem journalPuts_walk (w : World) (v1 : Value) (puts : List One) (hv1 : RdS rOne w (fun k => k < w.heap.size) v1 puts) (v2 : Value) (wl : List One) (hv2 : RdS rOne w (fun k => k < w.heap.size) v2 wl) (v3 : Value) (picks : List Int) (hv3 : RdS rI w (fun k => k < w.heap.size) v3 picks) :
    Calls Try.prog 16 #[v1, v2, v3] w fun e w' => e = .returned (.bool true) ∧ Below w.heap.size w w' := by
  obtain ⟨va1, vc1, rfl, hc1, hm1⟩ := hv1.slice
  obtain ⟨va2, vc2, rfl, -⟩ := hv2.slice
  obtain ⟨va3, vc3, rfl, -⟩ := hv3.slice
  have HV1 := hid hv1
  have HV2 := hid hv2
  have HV3 := hid hv3
  clear hv1 hv2 hv3
  go_enter Try.func16, Try.ntmps16
  go_wp2_with fail
  refine (awake04_any w).mono ?_
  rintro e w1 ⟨rfl, hx1⟩
  have HX1 := hid hx1
  clear hx1
  go_wp2_with fail
  refine (laid_any w1 64 (by omega)).mono ?_
  rintro e w2 ⟨g, gl, ρ, d, rfl, hlog, hc⟩
  generalize (fun _ : Int => zb) = H1 at hlog
  have HL := hid hlog
  have HC := hid hc
  have hgl := hlog.log.lt
  clear hlog hc
  go_wp2_with fail
  obtain ⟨z, hz⟩ : ∃ z, z = w2.heap.size := ⟨_, rfl⟩
  rw [← hz]
  have HZ := hid hz
  have hzle : w2.heap.size ≤ z := by omega
  clear hz
  go_loopw [11] (fun u11 wr => ∃ (i : Nat) (di : Dv), u11 = .int .i64 i ∧ i ≤ 44 ∧ LogAt w1 wr g ρ (3000 + i) di gl 64 1 H1 ∧ Calm di ∧ wr.heap[z]? = some (.cells (arrL (cutTo H1 i)) 80 (0, 0))) (fun u11 _ => 44 - (intOf u11).toNat)
  case atStart =>
    have hz := HZ.out
    have hxa : ∀ o1, Ext w2 (w2.alloc o1) := fun o1 => (Ext.refl _).alloc _
    refine ⟨0, d, rfl, Nat.zero_le _, { HL.out with hm := (HL.out.hm.ext (hxa _)).mono (by omega), log := HL.out.log.ext (hxa _) }, HC.out, ?_⟩
    rw [hz]
    exact heap_alloc_new _ _
  case round =>
    obtain ⟨i, di, rfl, hi, hli, hci, hr1⟩ := hrel
    have HLI := hid hli
    have HCI := hid hci
    have HR1 := hid hr1
    have hzr : z < wr.heap.size := (Array.getElem?_eq_some_iff.1 hr1).1
    have hnz : ρ z = none := HL.out.hm.late (Ext.refl _) (by omega)
    have hnzg : z ≠ g := fun e => by
      obtain ⟨_, _, _, h⟩ := HL.out.hm.dv
      rw [e, h.rg] at hnz; cases hnz
    clear hli hci hr1
    by_cases hlt : i < 44
    · have i1 : (i : Int) < 44 := by omega
      go_wp2_with fail
      refine (LRead HLI.out HCI.out (by omega) (by omega) i (by omega)).mono ?_
      rintro e w8 ⟨kx, rfl, hkx, hrx, -, d8, hl8, hc8, hk8⟩
      have hr1 := (hk8.block z ⟨hnzg, by omega⟩ (by omega)).trans HR1.out
      obtain ⟨X, hX⟩ : ∃ X, X = H1 (20 + (i : Int)) := ⟨_, rfl⟩
      rw [← hX] at hrx
      have s1 := run_strB hrx
      have f1 := blk_fro hr1 i
      have c1 : w8.cell? ⟨z, i, none⟩ = some (.string ⟨(cutTo H1 i i).toArray⟩) := by rw [cell_of_row _ _ _ _ _ _ hr1, arr_get _ _ hlt]
      have hw1 : IntKind.i64.wrap ((i : Int) + 1) = (i : Int) + 1 := by rw [IntKind.wrap_i64]; omega
      have HL8 := hid hl8
      have HC8 := hid hc8
      have HK8 := hid hk8
      have HR1' := hid hr1
      have HXX := hid hX
      clear hl8 hc8 hk8 hr1 hrx hX
      go_wp2_with fail
      obtain ⟨q1, q3⟩ := arr_one (i := i) HR1'.out X
      have he : (fun j => if j = i then X else cutTo H1 i j) = cutTo H1 (i + 1) := by rw [HXX.out]; exact cutTo_next H1 i
      rw [he] at q1
      have hz8 := HK8.out.size
      have hko : Keep (fun k => k < w2.heap.size) w8 _ := q3.mono fun k hk _ => by omega
      refine ⟨⟨i + 1, d8, rfl, by omega, ({ HL8.out with hm := HL8.out.hm.mono (by omega) } : LogAt w1 w8 g ρ (3000 + (i + 1)) d8 gl 64 1 H1).kept (hko.mono fun k hk hl => ?_), HC8.out, q1⟩, by simp only [intOf]; omega⟩
      rcases hk with (hk | hk) | hk
      · have := HL.out.hm.dv.rlt k hk; omega
      · have := HL.out.hm.ex.size; omega
      · omega
    · have hie : i = 44 := by omega
      subst hie
      have i1 : ¬ (((44 : Nat) : Int) < 44) := by omega
      go_wp2_with fail
      have HP0 := hid (HLI.out.put HCI.out (by omega))
      clear HLI HCI i1 hi hzr
      go_loopw [14] (fun u14 wq => ∃ (i : Nat) (ρi : Nat → Option DRol) (di : Dv) (C : Int → Bk), u14 = .int .i64 i ∧ i ≤ puts.length ∧ i ≤ 40 ∧ PutAt w1 wq g ρi (3044 + 2 * i) di gl 64 1 C ∧ ρi z = none ∧ wq.heap[z]? = some (.cells (arrL (cutTo C 44)) 80 (0, 0))) (fun u14 _ => 40 - (intOf u14).toNat)
      case atStart => exact ⟨0, ρ, di, H1, rfl, Nat.zero_le _, Nat.zero_le _, HP0.out, hnz, HR1.out⟩
      case round =>
        clear HP0 HR1 hnz
        obtain ⟨i, ρi, di, C, rfl, hi, hi40, hpi, hnz, hr1⟩ := hrel
        have HPI := hid hpi
        have HR1 := hid hr1
        have HNZ := hid hnz
        have HXW := hid (HX1.out.trans hpi.hm.ex)
        have hzr : z < wr.heap.size := (Array.getElem?_eq_some_iff.1 hr1).1
        have hgi := hpi.log.lt
        clear hpi hr1 hnz
        have hex : (i < puts.length ∧ i < 40) ∨ ¬ i < puts.length ∨ (i < puts.length ∧ ¬ i < 40) := by omega
        rcases hex with ⟨hlt, hl40⟩ | hex
        · have i1 : (i : Int) < (puts.length : Int) := by omega
          have i2 : (i : Int) < 40 := by omega
          have hw1 : IntKind.i64.wrap ((i : Int) + 1) = (i : Int) + 1 := by rw [IntKind.wrap_i64]; omega
          have HH := hid (show (i : Int) + 1 = ((i + 1 : Nat) : Int) by omega)
          have hle : i + 1 ≤ vc1 := by omega
          have HCUT := hid (show RdS rOne wr (fun k => k < w.heap.size) (.slice (cutAt va1 vc1 i 3) 1 (vc1 - i)) [puts[i]] by
            have h := (HV1.out.ext HXW.out).cut i (i + 1) (by omega) (by omega)
            rw [show i + 1 - i = 1 by omega, rOne_size, List.drop_eq_getElem_cons hlt] at h
            exact h)
          go_wp2_with ((with_reducible refine at_slice ?_); go_must (refine wl_slice_lh rfl rfl Try.underlying79 infoOne rfl rfl rfl i (i + 1) rfl HH.out (Nat.le_succ _) hle ?_))
          refine (within_any wr _ _ _ HCUT.out).mono ?_
          rintro e wa ⟨v', rfl, hv', hxa⟩
          have hwin := within_in [puts[i]]
          rw [withinF_one] at hv' hwin
          generalize oneF puts[i] = x at hv' hwin
          obtain ⟨p1, p2, p3⟩ := hwin.1.2 x (by simp)
          have p4 := hwin.2 x (by simp)
          obtain ⟨gr, o, cap, u, rfl, hgr, hSg, d0, d1, b0, b1, b2⟩ := hv'.atWr 0 (by simp)
          obtain ⟨bn, data⟩ := x
          simp only [List.getElem_cons_zero, Nat.zero_mul, Nat.add_zero, List.length_singleton] at d0 d1 b0 b1 b2 p1 p2 p3 p4
          obtain ⟨nn, hnn⟩ : ∃ nn : Nat, bn = nn := ⟨bn.toNat, by omega⟩
          subst hnn
          have hnn : nn < 44 := by omega
          obtain ⟨ua, uc, rfl⟩ := b1.slice'
          rw [p3] at d1
          have b1' : RdB wa (.slice ua 512 uc) data := by rw [← p3]; exact b1
          have b2' : ∀ k, (Value.slice ua 512 uc).ownBlock = some k → wr.heap.size ≤ k ∧ k < wa.heap.size := fun k hk => ⟨b2 (by omega) k (by rw [← hk]; cases ua <;> rfl), Rd.block_lt b1' (by omega) k hk⟩
          have B1 := hid b1'
          have B2 := hid b2'
          have P3 := hid p3
          have HXA := hid hxa
          have hza := hxa.size
          clear hwin hv' b1 b2 b1' b2' p3 hxa HCUT
          go_wp2_with fail
          have hxal : ∀ o1, Ext wa (wa.alloc o1) := fun o1 => (Ext.refl _).alloc _
          have hlate : ∀ k, wr.heap.size ≤ k → ρi k = none := fun k hk => HPI.out.hm.late (Ext.refl _) hk
          refine (LPut (HPI.out.ext (HXA.out.trans (hxal _))) (by omega) (by omega) nn (by omega) ua uc data (B1.out.ext (hxal _)) (fun k hk => hlate k (B2.out k hk).1) P3.out).mono ?_
          rintro e wp ⟨rfl, ρ', d', hp', hr', hk'⟩
          have hzp := hk'.size
          simp only [World.size_alloc] at hzp
          have hrz := (hk'.block z ⟨HNZ.out, by omega⟩ (by simp; omega)).trans (row_ext (HXA.out.trans (hxal _)) HR1.out)
          have hry := (hk'.block wa.heap.size ⟨hlate _ (by omega), by omega⟩ (by simp)).trans (heap_alloc_new _ _)
          have y0 := (cell_of_row _ _ 0 _ _ _ hry).trans (by rfl)
          have y1 := (cell_of_row _ _ 1 _ _ _ hry).trans (by rfl)
          have hbp : RdB wp (.slice ua 512 uc) data := Rd.carry0 (B1.out.ext (hxal _)) hk'.size fun h0 k hk hl => hk'.block k ⟨hlate k (B2.out k hk).1, by have := (B2.out k hk).1; omega⟩ hl
          have s1 := run_strB hbp
          have f1 := blk_fro hrz nn
          have c1 : wp.cell? ⟨z, nn, none⟩ = some (.string ⟨(cutTo C 44 nn).toArray⟩) := by rw [cell_of_row _ _ _ _ _ _ hrz, arr_get _ _ hnn]
          have i3 : (nn : Int) < 44 := by omega
          have HP' := hid hp'
          have HR' := hid hr'
          have HRZ := hid hrz
          clear hp' hr' hk' hrz hry hbp hxal hlate
          go_wp2_with fail
          obtain ⟨q1, q3⟩ := arr_one (i := nn) HRZ.out data
          rw [cutTo_put C nn hnn] at q1
          have hnz' : ρ' z = none := rol_old HR'.out HNZ.out (by simp; omega)
          refine ⟨⟨i + 1, ρ', d', _, rfl, by omega, by omega, (HP'.out.more (by omega)).kept (q3.mono fun k hk hl e => ?_), hnz', q1⟩, by simp only [intOf]; omega⟩
          subst e
          rcases hk with (hk | hk) | hk
          · exact hk hnz'
          · have := HL.out.hm.ex.size; omega
          · omega
        · have HEX : ∀ W : World, True := fun _ => trivial
          have hz2 := HL.out.hm.ex.size
          rcases hex with hn1 | ⟨hn1, hn2⟩
          all_goals
            first | (have i1 : ¬ (i : Int) < (puts.length : Int) := by omega) | skip
            first | (have i1 : (i : Int) < (puts.length : Int) := by omega) | skip
            first | (have i2 : ¬ (i : Int) < 40 := by omega) | skip
            go_wp2_with fail
            refine (within_any wr _ _ wl (HV2.out.ext HXW.out)).mono ?_
            rintro e w4 ⟨vb, rfl, hvb, hx4⟩
            have hwin := within_in wl
            generalize withinF wl = ws at hvb hwin
            obtain ⟨ba, bc, rfl, -⟩ := hvb.slice
            have HWIN := hid hwin
            have hz4 := hx4.size
            have HP4 := hid (HPI.out.ext hx4)
            have HR14 := hid (row_ext hx4 HR1.out)
            have HVB4 := hid (hvb.mono (S' := fun j => wr.heap.size ≤ j) fun j hj hl => hj)
            have HLATE := hid (fun k (hk : wr.heap.size ≤ k) => HPI.out.hm.late (Ext.refl _) hk)
            obtain ⟨zb, hzb⟩ : ∃ zb, zb = wr.heap.size := ⟨_, rfl⟩
            rw [← hzb] at HVB4 HLATE
            have hzb1 : z < zb := by omega
            have hzb2 : gl < zb := by omega
            clear hvb hx4 hwin hzb HPI HR1 HXW i1
            go_wp2_with fail
            go_loopw [17] (fun u17 wq => ∃ i : Nat, u17 = .int .i64 i ∧ i ≤ ws.length ∧ PutAt w1 wq g ρi (3044 + 80) di gl 64 1 C ∧ wq.heap[z]? = some (.cells (arrL (upW (cutTo C 44) (ws.take i))) 80 (0, 0)) ∧ RdS rWr wq (fun j => zb ≤ j) (.slice ba ws.length bc) ws) (fun u17 _ => ws.length - (intOf u17).toNat)
            case atStart => exact ⟨0, rfl, Nat.zero_le _, HP4.out.more (by omega), HR14.out, HVB4.out⟩
            case round =>
              clear HP4 HR14 HVB4
              obtain ⟨i, rfl, hi, hli, hr1, hvb⟩ := hrel
              have HLI := hid hli
              have HR1 := hid hr1
              have HVB := hid hvb
              have hzr : z < wr.heap.size := (Array.getElem?_eq_some_iff.1 hr1).1
              by_cases hlt : i < ws.length
              · obtain ⟨gr, o, cap, u, e, hgr, hSg, d0, d1, b0, b1, b2⟩ := hvb.atWr i hlt
                simp only [Value.slice.injEq] at e
                obtain ⟨rfl, -, rfl⟩ := e
                obtain ⟨p1, p2, p3⟩ := HWIN.out.1.2 _ (List.getElem_mem hlt)
                have p4 := HWIN.out.2 _ (List.getElem_mem hlt)
                have htk : ws.take (i + 1) = ws.take i ++ [ws[i]] := (List.take_append_getElem hlt).symm
                have HTK := hid htk
                generalize ws[i] = x at d0 d1 b0 b1 b2 p1 p2 p3 p4 HTK
                obtain ⟨bn, data⟩ := x
                dsimp only at d0 d1 b0 b1 b2 p1 p2 p3 p4
                obtain ⟨nn, hnn⟩ : ∃ nn : Nat, bn = nn := ⟨bn.toNat, by omega⟩
                subst hnn
                have hcv := run_strB (b1.drew)
                obtain ⟨ua, uc, rfl⟩ := b1.slice'
                have i1 : (i : Int) < (ws.length : Int) := by omega
                have i2 : (nn : Int) < 44 := by omega
                have hnn : nn < 44 := by omega
                have hw1 : IntKind.i64.wrap ((i : Int) + 1) = (i : Int) + 1 := by rw [IntKind.wrap_i64] <;> (have := HWIN.out.1.1; omega)
                have fz := blk_fro hr1 nn
                have cz : wr.cell? ⟨z, nn, none⟩ = some (.string ⟨(upW (cutTo C 44) (ws.take i) nn).toArray⟩) := by rw [cell_of_row _ _ _ _ _ _ hr1, arr_get _ _ hnn]
                rw [p3] at d1 hcv
                clear hli hr1 hvb htk b1 b2 p3
                go_wp2_with fail
                have hxd : Ext wr wr.drew := by (· repeat (first | (with_reducible assumption) | exact Ext.refl _ | refine Ext.alloc ?_ _ | refine Ext.drew ?_ | refine Ext.drewN ?_ _ | (apply Ext.snart; (with_reducible assumption))))
                refine wp_region_T (fun w' => w'.cell? ⟨gr, o + i * 2, none⟩ = some (.int .i64 nn) ∧ w'.cell? ⟨gr, o + i * 2 + 1, none⟩ = some (.slice ua 512 uc) ∧ (convert 22 9 (.slice ua 512 uc)).run Try.prog w' = .ok (.string ⟨data.toArray⟩) w') [12] (by kernel_rfl) ⟨Ext.cellS hxd d0, Ext.cellS hxd d1, hcv⟩ (fun hS => ?_)
                (refine wpAnyT_take (i := 0) (v := ?_) rfl (by kernel_rfl) (by kernel_rfl) (by kernel_rfl) (by kernel_rfl) (fun _ _ _ h => h) (Or.inl ⟨by rfl, ?_⟩) (by assumption) ?_; rotate_left; ((intro wS hSw; (try dsimp only at hSw); (try simp only [List.getElem_toArray, List.getElem_cons_zero, List.getElem_cons_succ]); go_simp); (try with_reducible rfl)); (try simp only [Act.put, List.getElem_toArray, List.getElem_cons_zero, List.getElem_cons_succ, List.setIfInBounds_toArray, List.set_cons_zero, List.set_cons_succ]))
                (refine wpAnyT_take (i := 1) (v := ?_) rfl (by kernel_rfl) (by kernel_rfl) (by kernel_rfl) (by kernel_rfl) (fun _ _ _ h => h) (Or.inl ⟨by rfl, ?_⟩) (by assumption) ?_; rotate_left; ((intro wS hSw; (try dsimp only at hSw); (try simp only [List.getElem_toArray, List.getElem_cons_zero, List.getElem_cons_succ]); go_simp); (try with_reducible rfl)); (try simp only [Act.put, List.getElem_toArray, List.getElem_cons_zero, List.getElem_cons_succ, List.setIfInBounds_toArray, List.set_cons_zero, List.set_cons_succ]))
                (refine wpAnyT_take (i := 2) (v := ?_) rfl (by kernel_rfl) (by kernel_rfl) (by kernel_rfl) (by kernel_rfl) (fun _ _ _ h => h) (Or.inl ⟨by rfl, ?_⟩) (by assumption) ?_; rotate_left; ((intro wS hSw; (try dsimp only at hSw); (try simp only [List.getElem_toArray, List.getElem_cons_zero, List.getElem_cons_succ]); go_simp); (try with_reducible rfl)); (try simp only [Act.put, List.getElem_toArray, List.getElem_cons_zero, List.getElem_cons_succ, List.setIfInBounds_toArray, List.set_cons_zero, List.set_cons_succ]))
                (refine wpAnyT_take (i := 3) (v := ?_) rfl (by kernel_rfl) (by kernel_rfl) (by kernel_rfl) (by kernel_rfl) (fun _ _ _ h => h) (Or.inl ⟨by rfl, ?_⟩) (by assumption) ?_; rotate_left; ((intro wS hSw; (try dsimp only at hSw); (try simp only [List.getElem_toArray, List.getElem_cons_zero, List.getElem_cons_succ]); go_simp); (try with_reducible rfl)); (try simp only [Act.put, List.getElem_toArray, List.getElem_cons_zero, List.getElem_cons_succ, List.setIfInBounds_toArray, List.set_cons_zero, List.set_cons_succ]))
                (refine wpAnyT_take (i := 4) (v := ?_) rfl (by kernel_rfl) (by kernel_rfl) (by kernel_rfl) (by kernel_rfl) (fun _ _ _ h => h) (Or.inl ⟨by rfl, ?_⟩) (by assumption) ?_; rotate_left; ((intro wS hSw; (try dsimp only at hSw); (try simp only [List.getElem_toArray, List.getElem_cons_zero, List.getElem_cons_succ]); go_simp); (try with_reducible rfl)); (try simp only [Act.put, List.getElem_toArray, List.getElem_cons_zero, List.getElem_cons_succ, List.setIfInBounds_toArray, List.set_cons_zero, List.set_cons_succ]))
                (refine wpAnyT_take (i := 5) (v := ?_) rfl (by kernel_rfl) (by kernel_rfl) (by kernel_rfl) (by kernel_rfl) (fun _ _ _ h => h) (Or.inl ⟨by rfl, ?_⟩) (by assumption) ?_; rotate_left; ((intro wS hSw; (try dsimp only at hSw); (try simp only [List.getElem_toArray, List.getElem_cons_zero, List.getElem_cons_succ]); go_simp); (try with_reducible rfl)); (try simp only [Act.put, List.getElem_toArray, List.getElem_cons_zero, List.getElem_cons_succ, List.setIfInBounds_toArray, List.set_cons_zero, List.set_cons_succ]))
                (refine wpAnyT_take (i := 6) (v := ?_) rfl (by kernel_rfl) (by kernel_rfl) (by kernel_rfl) (by kernel_rfl) (fun _ _ _ h => h) (Or.inl ⟨by rfl, ?_⟩) (by assumption) ?_; rotate_left; ((intro wS hSw; (try dsimp only at hSw); (try simp only [List.getElem_toArray, List.getElem_cons_zero, List.getElem_cons_succ]); go_simp); (try with_reducible rfl)); (try simp only [Act.put, List.getElem_toArray, List.getElem_cons_zero, List.getElem_cons_succ, List.setIfInBounds_toArray, List.set_cons_zero, List.set_cons_succ]))
                (refine wpAnyT_take (i := 7) (v := ?_) rfl (by kernel_rfl) (by kernel_rfl) (by kernel_rfl) (by kernel_rfl) (fun _ _ _ h => h) (Or.inl ⟨by rfl, ?_⟩) (by assumption) ?_; rotate_left; ((intro wS hSw; (try dsimp only at hSw); (try simp only [List.getElem_toArray, List.getElem_cons_zero, List.getElem_cons_succ]); go_simp); (try with_reducible rfl)); (try simp only [Act.put, List.getElem_toArray, List.getElem_cons_zero, List.getElem_cons_succ, List.setIfInBounds_toArray, List.set_cons_zero, List.set_cons_succ]))
                (refine wpAnyT_take (i := 8) (v := ?_) rfl (by kernel_rfl) (by kernel_rfl) (by kernel_rfl) (by kernel_rfl) (fun _ _ _ h => h) (Or.inl ⟨by rfl, ?_⟩) (by assumption) ?_; rotate_left; ((intro wS hSw; (try dsimp only at hSw); (try simp only [List.getElem_toArray, List.getElem_cons_zero, List.getElem_cons_succ]); go_simp); (try with_reducible rfl)); (try simp only [Act.put, List.getElem_toArray, List.getElem_cons_zero, List.getElem_cons_succ, List.setIfInBounds_toArray, List.set_cons_zero, List.set_cons_succ]))
                (refine wpAnyT_take (i := 9) (v := ?_) rfl (by kernel_rfl) (by kernel_rfl) (by kernel_rfl) (by kernel_rfl) (fun _ _ _ h => h) (Or.inl ⟨by rfl, ?_⟩) (by assumption) ?_; rotate_left; ((intro wS hSw; (try dsimp only at hSw); (try simp only [List.getElem_toArray, List.getElem_cons_zero, List.getElem_cons_succ]); go_simp); (try with_reducible rfl)); (try simp only [Act.put, List.getElem_toArray, List.getElem_cons_zero, List.getElem_cons_succ, List.setIfInBounds_toArray, List.set_cons_zero, List.set_cons_succ]))
                (refine wpAnyT_take (i := 10) (v := ?_) rfl (by kernel_rfl) (by kernel_rfl) (by kernel_rfl) (by kernel_rfl) (fun _ _ _ h => h) (Or.inl ⟨by rfl, ?_⟩) (by assumption) ?_; rotate_left; ((intro wS hSw; (try dsimp only at hSw); (try simp only [List.getElem_toArray, List.getElem_cons_zero, List.getElem_cons_succ]); go_simp); (try with_reducible rfl)); (try simp only [Act.put, List.getElem_toArray, List.getElem_cons_zero, List.getElem_cons_succ, List.setIfInBounds_toArray, List.set_cons_zero, List.set_cons_succ]))
                refine wpAnyT_all (rs := [11]) (by kernel_rfl) (by decide) (AllT.consS rfl (fun K hK => ?_) AllT.nil)
                go_simp
                (refine hK.out _ _ (hS) (fun hS => ?_); clear hK K)
                refine wpAnyT_all (rs := [12]) (by kernel_rfl) (by decide) (AllT.consF rfl rfl (fun K hK => ?_) AllT.nil)
                go_simp
                (refine hK.out _ _ ?_; clear hK K)
                refine wpAnyT_done (by kernel_rfl) (NoPanic.normal ?_) _
                go_wp2_with fail
                have hk0 : Keep (fun j => j ≠ z) wr (wr.setCell ⟨z, nn, none⟩ (.string ⟨data.toArray⟩)) := (Keep.refl _ _).setCell (by simp) _
                have hkp : Keep (fun j => j ≠ z) wr (wr.setCell ⟨z, nn, none⟩ (.string ⟨data.toArray⟩)).drew := hk0.trans ((Ext.refl (wr.setCell ⟨z, nn, none⟩ (.string ⟨data.toArray⟩))).drew.keep _)
                have hrow : (wr.setCell ⟨z, nn, none⟩ (.string ⟨data.toArray⟩)).drew.heap[z]? = some (.cells (arrL (upW (cutTo C 44) (ws.take (i + 1)))) 80 (0, 0)) := by
                  have h := blk_set (o := nn) HR1.out (.string ⟨data.toArray⟩)
                  rw [arr_set] at h
                  rw [HTK.out, upW_snoc]
                  exact h
                refine ⟨⟨i + 1, rfl, by omega, HLI.out.kept (hkp.mono fun j hj hl e => ?_), hrow, HVB.out.kept (hkp.mono fun j hj _ => by omega)⟩, by simp only [intOf]; omega⟩
                subst e
                rcases hj with (hj | hj) | hj
                · exact hj HNZ.out
                · have := HL.out.hm.ex.size; omega
                · omega
              · have hie : i = ws.length := by omega
                subst hie
                have i1 : ¬ ((ws.length : Nat) : Int) < (ws.length : Int) := by omega
                rw [List.take_length] at hr1
                have HR1 := hid hr1
                clear hli hr1 hvb
                go_wp2_with fail
                refine (LCommitP HLI.out (by omega) (by omega) (by omega) _ _ (HVB.out.mono fun k hk hl => ⟨HLATE.out k hk, by omega⟩) HWIN.out).mono ?_
                rintro e wg ⟨ρ9, d9, rfl, hl9, hc9, hr9, hk9⟩
                have HR1G := hid ((hk9.block z ⟨HNZ.out, by omega⟩ (by omega)).trans HR1.out)
                have n91 : ρ9 z = none := rol_old hr9 HNZ.out (by omega)
                have hi9 : ∀ s, Img d9 s → LogS 64 s (1 + 1) (wcurF 0 ws 0 C) := fun s hs => hl9.sp.cur (by omega) fun j a b => img_still hl9.st hs j a (by rw [hl9.len]; exact b)
                have HM9 := hid hl9.hm
                have HL9 := hid hl9.len
                have HI9 := hid hi9
                have hz9 := hk9.size
                clear hr9 hk9 hl9 hi9 hc9
                go_wp2_with fail
                refine (LCrash HM9.out (by omega) HL9.out (fun s => LogS 64 s (1 + 1) (wcurF 0 ws 0 C)) HI9.out (fun j => j < w.heap.size) _ picks (HV3.out.ext (HX1.out.trans HM9.out.ex)) (fun j hj _ => by
                  by_cases e : ρ9 j = none
                  · exact e
                  · have := HM9.out.nw j e; have := HX1.out.size; omega)).mono ?_
                rintro e wc ⟨rfl, dc, hmc, hcc, hsc, hlc, hpc, hkc⟩
                have HR1C := hid (row_past hkc HR1G.out n91)
                have hzc := hkc.size
                have HOP := hid (LOpen hmc (by omega) hcc hsc hlc (by omega) (n := 1 + 1) (by omega) (H := wcurF 0 ws 0 C) (res := none) (.inl ⟨rfl, hpc⟩) (wsIn_nil 64))
                clear hmc hcc hsc hlc hkc hpc
                go_wp2_with fail
                refine HOP.out.mono ?_
                rintro e wo ⟨ρo, do', gm, rfl, hlo, hco, hro, hko, hgm⟩
                have HR1O := hid (row_past hko HR1C.out n91)
                have n93 : ρo z = none := rol_old hro n91 (by omega)
                rw [hn_none] at hlo
                obtain ⟨Hf, hf⟩ : ∃ Hf, Hf = wcurF 0 ws 0 C := ⟨_, rfl⟩
                rw [← hf] at hlo
                have HF := hid hf
                have HLO := hid hlo
                have HCO := hid hco
                have hzo := hko.size
                clear hlo hco hro hko HOP hf
                go_wp2_with fail
                go_loopw [21] (fun u21 wq => ∃ (i : Nat) (di : Dv), u21 = .int .i64 i ∧ i ≤ 44 ∧ LogAt w1 wq g ρo (6000 + i) di gm 64 (1 + 1 + 1) Hf ∧ Calm di ∧ wq.heap[z]? = some (.cells (arrL (upW (cutTo C 44) ws)) 80 (0, 0))) (fun u21 _ => 44 - (intOf u21).toNat)
                case atStart => exact ⟨0, _, rfl, Nat.zero_le _, { HLO.out with hm := HLO.out.hm.mono (by omega) }, HCO.out, HR1O.out⟩
                case round =>
                  clear HLO HCO HR1O
                  obtain ⟨i, di, rfl, hi, hli, hci, hr1⟩ := hrel
                  have HLI := hid hli
                  have HCI := hid hci
                  have HR1 := hid hr1
                  have hzr : z < wr.heap.size := (Array.getElem?_eq_some_iff.1 hr1).1
                  clear hli hci hr1
                  by_cases hlt : i < 44
                  · have i1 : (i : Int) < 44 := by omega
                    have hngo : ∀ j, ρo j = none → j ≠ g := fun j hj e => by
                      obtain ⟨_, _, _, h⟩ := HLI.out.hm.dv
                      rw [e, h.rg] at hj; cases hj
                    have hgmz : gm ≠ z := by omega
                    have hnz1 := hngo z n93
                    have hw1 : IntKind.i64.wrap ((i : Int) + 1) = (i : Int) + 1 := by rw [IntKind.wrap_i64]; omega
                    clear hngo
                    go_wp2_with fail
                    refine (LRead HLI.out HCI.out (by omega) (by omega) i (by omega)).mono ?_
                    rintro e w8 ⟨kx, rfl, hkx, hrx, -, d8, hl8, hc8, hk8⟩
                    have hr1 := (hk8.block z ⟨hnz1, fun e => hgmz e.symm⟩ (by omega)).trans HR1.out
                    have c1 : w8.cell? ⟨z, i, none⟩ = some (.string ⟨(Hf (20 + i)).toArray⟩) := by
                      rw [HF.out, cell_of_row _ _ _ _ _ _ hr1, arr_get _ _ hlt, upW_wcur ws _ C 0 (fun p hp => (HWIN.out.1.2 p hp).1) (fun j hj => show cutTo C 44 j = C (20 + j) from if_pos hj) i hlt]
                    generalize Hf (20 + (i : Int)) = X at hrx c1
                    have hsc := fun n => run_strB (hrx.ext ((Ext.refl _).drewN n))
                    have HEND := hid (show ∀ W, Ext w8 W → ∃ (i' : Nat) (di' : Dv), Value.int .i64 ((i : Int) + 1) = .int .i64 i' ∧ i' ≤ 44 ∧ LogAt w1 W g ρo (6000 + i') di' gm 64 (1 + 1 + 1) Hf ∧ Calm di' ∧ W.heap[z]? = some (.cells (arrL (upW (cutTo C 44) ws)) 80 (0, 0)) from
                      fun W hW => ⟨i + 1, d8, rfl, by omega, { hl8 with hm := (hl8.hm.ext hW).mono (by omega), log := hl8.log.ext hW }, hc8, row_ext hW hr1⟩)
                    clear hrx hl8 hc8 hk8 hr1 HR1 HLI HCI
                    go_wp2_with fail
                    go_quiet (fail)
                    go_wp2_with fail
                    refine ⟨HEND.out _ ?_, ?_⟩
                    · (· repeat (first | (with_reducible assumption) | exact Ext.refl _ | refine Ext.alloc ?_ _ | refine Ext.drew ?_ | refine Ext.drewN ?_ _ | (apply Ext.snart; (with_reducible assumption))))
                    · simp only [intOf]; omega
                  · have hie : i = 44 := by omega
                    subst hie
                    have i1 : ¬ (((44 : Nat) : Int) < 44) := by omega
                    have HXX := hid (HX1.out.trans HLI.out.hm.ex)
                    clear HLI HCI HR1
                    go_wp2_with fail
                    go_ret
                    exact ⟨rfl, HXX.out⟩
end Go.Proofs.Ytgbiffpnfpdcoaa
