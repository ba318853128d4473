/- cartularylaw04.JournalGhosts, walked. -/
import Derived.Test.YtgbiffpnfpdcoaaJ7
namespace Go.Proofs.Ytgbiffpnfpdcoaa
open Go.RowKit Go.Maps
set_option linter.unusedVariables false
set_option linter.unusedSimpArgs false

set_option maxRecDepth 100000 in
set_option maxHeartbeats 8000000 in
theorem journalGhosts_walk (w : World) (v1 : Value) (one : List One) (hv1 : RdS rOne w (fun k => k < w.heap.size) v1 one) (k : Int) (hk : -9223372036854775808 ≤ k ∧ k ≤ 9223372036854775807) (v3 : Value) (picks : List Int) (hv3 : RdS rI w (fun k => k < w.heap.size) v3 picks) (v2 : Value) (then' : List One) (hv2 : RdS rOne w (fun k => k < w.heap.size) v2 then') (k2 : Int) (hk2 : -9223372036854775808 ≤ k2 ∧ k2 ≤ 9223372036854775807) (v4 : Value) (more : List Int) (hv4 : RdS rI w (fun k => k < w.heap.size) v4 more) :
    Calls Try.prog 18 #[v1, .int .i64 k, v3, v2, .int .i64 k2, v4] w fun e w' => e = .returned (.bool true) ∧ Below w.heap.size w w' := by
  obtain ⟨va1, vc1, rfl, -⟩ := hv1.slice
  obtain ⟨va2, vc2, rfl, -⟩ := hv2.slice
  obtain ⟨va3, vc3, rfl, -⟩ := hv3.slice
  obtain ⟨va4, vc4, rfl, -⟩ := hv4.slice
  have HV1 := hid hv1
  have HV2 := hid hv2
  have HV3 := hid hv3
  have HV4 := hid hv4
  have HK := hid hk
  have HK2 := hid hk2
  clear hv1 hv2 hv3 hv4 hk hk2
  go_enter Try.func18, Try.ntmps18
  go_wp2_with fail
  refine (awake04_any w).mono ?_
  rintro e w1 ⟨rfl, hx1⟩
  have HX1 := hid hx1
  clear hx1
  go_wp2_with fail
  refine (laid_any w1 64 (by omega)).mono ?_
  rintro e w2 ⟨g, gl0, ρ, d, rfl, hlog, hc⟩
  have HL := hid hlog
  have HC := hid hc
  have HX2 := hid (HX1.out.trans hlog.hm.ex)
  clear hlog hc
  go_wp2_with fail
  refine (within_any w2 _ _ one (HV1.out.ext HX2.out)).mono ?_
  rintro e w3 ⟨va, rfl, hva, hx3⟩
  have HVA := hid hva
  have HX3 := hid hx3
  clear hva hx3
  go_wp2_with fail
  refine (within_any w3 _ _ then' (HV2.out.ext (HX2.out.trans HX3.out))).mono ?_
  rintro e w4 ⟨vb, rfl, hvb, hx4⟩
  have hwin := within_in then'
  generalize withinF then' = ws at hvb hwin
  obtain ⟨ba, bc, rfl, -⟩ := hvb.slice
  have HWIN := hid hwin
  have HVB := hid hvb
  have HX4 := hid hx4
  have hz2 := HX2.out.size
  have hz3 := HX3.out.size
  have hz4 := hx4.size
  have hgl := HL.out.log.lt
  have hla : LogAt w1 w4 g ρ 3000 d gl0 64 1 (fun _ => zb) := { HL.out with hm := HL.out.hm.ext (HX3.out.trans hx4), log := HL.out.log.ext (HX3.out.trans hx4) }
  have hnew : ∀ k, w2.heap.size ≤ k → ρ k = none ∧ k ≠ gl0 := fun k hk => ⟨HL.out.hm.late (Ext.refl _) hk, by omega⟩
  have hng0 : ∀ j, ρ j = none → j ≠ g := fun j hj e => by
    obtain ⟨_, _, _, h⟩ := HL.out.hm.dv
    rw [e, h.rg] at hj; cases hj
  have HVA4 := hid ((HVA.out.ext hx4).mono (S' := fun k => ρ k = none ∧ k ≠ gl0) fun k hk _ => hnew k hk)
  have HVB4 := hid (HVB.out.mono (S' := fun j => w3.heap.size ≤ j ∧ j < w4.heap.size) fun j hj hl => ⟨hj, hl⟩)
  have HLA := hid hla
  have HNEW := hid hnew
  have HNG0 := hid hng0
  clear hvb hx4 hla hnew hng0 hwin HVA HVB
  go_wp2_with fail
  refine (Pick_any _ k 60 HK.out (by omega) (by omega)).mono ?_
  rintro e w' ⟨rfl, rfl⟩
  have hpl := pickF_lt k (60 : Int).toNat (by decide)
  generalize pickF k (60 : Int).toNat = kk at hpl ⊢
  have hpl : kk < 60 := hpl
  go_wp2_with fail
  refine (LFuse HLA.out kk (by omega)).mono ?_
  rintro e wf ⟨rfl, df, hlf, hkf⟩
  have HVAF := hid (HVA4.out.kept (hkf.mono fun j hj _ => HNG0.out j hj.1))
  have HVBF := hid (HVB4.out.kept (hkf.mono fun j hj _ => HNG0.out j (HNEW.out j (by omega)).1))
  have HLF := hid hlf
  have hzf := hkf.size
  clear hlf hkf
  go_wp2_with fail
  refine (LCommitI HLF.out (by omega) (by omega) (by omega) _ _ HVAF.out (within_in one)).mono ?_
  rintro e wg ⟨ok, ρ9, d9, rfl, hdn, hr9, hk9, hm9, hl9, hi9⟩
  have HVBG := hid (HVBF.out.kept (hk9.mono fun j hj _ => HNEW.out j (by omega)))
  have HR9 := hid (fun j (h1 : w2.heap.size ≤ j) (h2 : j < w4.heap.size) => rol_old hr9 (HNEW.out j h1).1 (by omega))
  have HM9 := hid hm9
  have HL9 := hid hl9
  have HI9 := hid hi9
  have hz9 := hk9.size
  clear hr9 hk9 hm9 hl9 hi9 hdn
  generalize (if ok = true then (0 : Int) else 2) = ec0
  go_wp2_with fail
  refine (LCrash HM9.out (by omega) HL9.out _ HI9.out (fun j => j < w.heap.size) _ picks (HV3.out.ext (HX1.out.trans HM9.out.ex)) (fun j hj _ => by
    by_cases e : ρ9 j = none
    · exact e
    · have := HM9.out.nw j e; have := HX1.out.size; omega)).mono ?_
  rintro e wc ⟨rfl, dc, hmc, hcc, hsc, hlc, ⟨n', H0, res, hn', hst, hwi, -⟩, hkc⟩
  have HVBC := hid (HVBG.out.kept (hkc.mono fun j hj _ => HR9.out j (by omega) hj.2))
  have hzc := hkc.size
  have hop := LOpen hmc (by omega) hcc hsc hlc (by omega) (n := n') (by omega) hst hwi
  have HOP := hid hop
  clear hmc hcc hsc hlc hst hwi hkc hop
  go_wp2_with fail
  refine HOP.out.mono ?_
  rintro e w5 ⟨ρ5, d5, gl, rfl, hl5, hc5, hr5, hk5, hgm⟩
  generalize Hn H0 res = H1 at hl5
  obtain ⟨n5, hn5⟩ : ∃ n5, n5 = n' + 1 := ⟨_, rfl⟩
  rw [← hn5] at hl5
  have hn5 : n5 ≤ 3 := by omega
  have HL5 := hid hl5
  have HC5 := hid hc5
  have hvb5 := (HVBC.out.kept (hk5.mono fun j hj _ => HR9.out j (by omega) hj.2)).mono (S' := fun j => (ρ5 j = none ∧ j ≠ gl) ∧ j < w4.heap.size) fun j hj _ => ⟨⟨rol_old hr5 (HR9.out j (by omega) hj.2) (by omega), by omega⟩, hj.2⟩
  have HVB5 := hid hvb5
  have hz5 := hk5.size
  clear hl5 hc5 hr5 hk5 hvb5 HOP
  have hng : ∀ j, ρ5 j = none → j ≠ g := fun j hj e => by
    obtain ⟨_, _, _, h⟩ := HL5.out.hm.dv
    rw [e, h.rg] at hj; cases hj
  have hgl5 := HL5.out.log.lt
  have HNG := hid hng
  clear hng
  go_wp2_with fail
  obtain ⟨z, hz⟩ : ∃ z, z = w5.heap.size := ⟨_, rfl⟩
  rw [← hz]
  have HZ := hid hz
  have hzle : w5.heap.size ≤ z := by omega
  clear hz
  go_loopw [22] (fun u16 wr => ∃ (i : Nat) (di : Dv), u16 = .int .i64 i ∧ i ≤ 44 ∧ LogAt w1 wr g ρ5 (3800 + i) di gl 64 n5 H1 ∧ Calm di ∧ wr.heap[z]? = some (.cells (arrL (cutTo H1 i)) 80 (0, 0)) ∧ wr.heap[z + 1]? = some (.cells (arrL (cutTo H1 i)) 80 (0, 0)) ∧ RdS rWr wr (fun j => (ρ5 j = none ∧ j ≠ gl) ∧ j < w4.heap.size) (.slice ba ws.length bc) ws) (fun u16 _ => 44 - (intOf u16).toNat)
  case atStart =>
    have hz := HZ.out
    have hxa : ∀ o1 o2, Ext w5 ((w5.alloc o1).alloc o2) := fun o1 o2 => ((Ext.refl _).alloc _).alloc _
    refine ⟨0, d5, rfl, Nat.zero_le _, { HL5.out with hm := (HL5.out.hm.ext (hxa _ _)).mono (by omega), log := HL5.out.log.ext (hxa _ _) }, HC5.out, ?_, ?_, HVB5.out.ext (hxa _ _)⟩
    · rw [hz]
      exact row_ext ((Ext.refl _).alloc _) (heap_alloc_new _ _)
    · rw [hz]
      have h1 : (w5.alloc (.cells (arrL (cutTo H1 0)) 80)).heap.size = w5.heap.size + 1 := by simp
      have h2 := heap_alloc_new (w5.alloc (.cells (arrL (cutTo H1 0)) 80)) (.cells (arrL (cutTo H1 0)) 80)
      rw [h1] at h2
      exact h2
  case round =>
    obtain ⟨i, di, rfl, hi, hli, hci, hr1, hr2, hvb⟩ := hrel
    have HLI := hid hli
    have HCI := hid hci
    have HR1 := hid hr1
    have HR2 := hid hr2
    have HVB := hid hvb
    have hzr : z + 1 < wr.heap.size := (Array.getElem?_eq_some_iff.1 hr2).1
    have hgi := hli.log.lt
    clear hli hci hr1 hr2 hvb
    by_cases hlt : i < 44
    · have i1 : (i : Int) < 44 := by omega
      go_wp2_with fail
      refine (LRead HLI.out HCI.out (by omega) (by omega) i (by omega)).mono ?_
      rintro e w8 ⟨kx, rfl, hkx, hrx, -, d8, hl8, hc8, hk8⟩
      have hnz1 : z ≠ g := HNG.out z (HL5.out.hm.late (Ext.refl _) (by omega))
      have hnz2 : z + 1 ≠ g := HNG.out (z + 1) (HL5.out.hm.late (Ext.refl _) (by omega))
      have hr1 := (hk8.block z ⟨hnz1, by omega⟩ (by omega)).trans HR1.out
      have hr2 := (hk8.block (z + 1) ⟨hnz2, by omega⟩ (by omega)).trans HR2.out
      obtain ⟨X, hX⟩ : ∃ X, X = H1 (20 + (i : Int)) := ⟨_, rfl⟩
      rw [← hX] at hrx
      have s1 := run_strB hrx
      have s2 := run_strB (hrx.setCell ⟨z, i, none⟩ (.string ⟨X.toArray⟩) (fun k hk => by simp only [Value.ownBlock, Option.some.injEq] at hk; show k ≠ z; omega))
      have f1 := blk_fro hr1 i
      have f2 : (w8.setCell ⟨z, i, none⟩ (.string ⟨X.toArray⟩)).frozen? ⟨z + 1, i, none⟩ = false := by
        have h2 : (w8.setCell ⟨z, i, none⟩ (.string ⟨X.toArray⟩)).heap[z + 1]? = _ := ((Keep.refl (fun k => k ≠ z) w8).setCell (p := ⟨z, i, none⟩) (by simp) _).block (z + 1) (by omega) (by have := hk8.size; omega)
        exact blk_fro (h2.trans hr2) i
      have c1 : w8.cell? ⟨z, i, none⟩ = some (.string ⟨(cutTo H1 i i).toArray⟩) := by rw [cell_of_row _ _ _ _ _ _ hr1, arr_get _ _ hlt]
      have c2 : w8.cell? ⟨z + 1, i, none⟩ = some (.string ⟨(cutTo H1 i i).toArray⟩) := by rw [cell_of_row _ _ _ _ _ _ hr2, arr_get _ _ hlt]
      have n1 : ¬ z + 1 = z := by omega
      have n2 : ¬ z = z + 1 := by omega
      have hw1 : IntKind.i64.wrap ((i : Int) + 1) = (i : Int) + 1 := by rw [IntKind.wrap_i64]; omega
      have HL8 := hid hl8
      have HC8 := hid hc8
      have HK8 := hid hk8
      have HR1' := hid hr1
      have HR2' := hid hr2
      have HXX := hid hX
      clear hl8 hc8 hk8 hr1 hr2 hrx hX
      go_wp2_with fail
      obtain ⟨q1, q2, q3⟩ := arr_two (i := i) HR1'.out HR2'.out X
      have he : (fun j => if j = i then X else cutTo H1 i j) = cutTo H1 (i + 1) := by rw [HXX.out]; exact cutTo_next H1 i
      rw [he] at q1 q2
      have hz8 := HK8.out.size
      have hzg : w5.heap.size ≤ z := hzle
      have hko : Keep (fun k => k < w5.heap.size) w8 _ := q3.mono fun k hk _ => by omega
      refine ⟨⟨i + 1, d8, rfl, by omega, ({ HL8.out with hm := HL8.out.hm.mono (by omega) } : LogAt w1 w8 g ρ5 (3800 + (i + 1)) d8 gl 64 n5 H1).kept (hko.mono fun k hk hl => ?_), HC8.out, q1, q2, ?_⟩, by simp only [intOf]; omega⟩
      · rcases hk with (hk | hk) | hk
        · have := HL5.out.hm.dv.rlt k hk; omega
        · have := HL5.out.hm.ex.size; omega
        · omega
      · exact (HVB.out.kept (HK8.out.mono fun j hj _ => ⟨HNG.out j hj.1.1, hj.1.2⟩)).kept (hko.mono fun j hj _ => by omega)
    · have hie : i = 44 := by omega
      subst hie
      have i1 : ¬ (((44 : Nat) : Int) < 44) := by omega
      go_wp2_with fail
      clear hgi hzr i1
      go_loopw [25] (fun u19 wq => ∃ i : Nat, u19 = .int .i64 i ∧ i ≤ ws.length ∧ LogAt w1 wq g ρ5 (3800 + 44) di gl 64 n5 H1 ∧ wq.heap[z]? = some (.cells (arrL (cutTo H1 44)) 80 (0, 0)) ∧ wq.heap[z + 1]? = some (.cells (arrL (upW (cutTo H1 44) (ws.take i))) 80 (0, 0)) ∧ RdS rWr wq (fun j => (ρ5 j = none ∧ j ≠ gl) ∧ j < w4.heap.size) (.slice ba ws.length bc) ws) (fun u19 _ => ws.length - (intOf u19).toNat)
      case atStart => exact ⟨0, rfl, Nat.zero_le _, HLI.out, HR1.out, HR2.out, HVB.out⟩
      case round =>
        clear HLI HR1 HR2 HVB
        obtain ⟨i, rfl, hi, hli, hr1, hr2, hvb⟩ := hrel
        have HLI := hid hli
        have HR1 := hid hr1
        have HR2 := hid hr2
        have HVB := hid hvb
        have hzr : z + 1 < wr.heap.size := (Array.getElem?_eq_some_iff.1 hr2).1
        by_cases hlt : i < ws.length
        · obtain ⟨gr, o, cap, u, e, hgr, hSg, d0, d1, b0, b1, b2⟩ := hvb.atWr i hlt
          simp only [Value.slice.injEq] at e
          obtain ⟨rfl, -, rfl⟩ := e
          obtain ⟨p1, p2, p3⟩ := HWIN.out.1.2 _ (List.getElem_mem hlt)
          have p4 := HWIN.out.2 _ (List.getElem_mem hlt)
          have htk : ws.take (i + 1) = ws.take i ++ [ws[i]] := (List.take_append_getElem hlt).symm
          have HTK := hid htk
          generalize ws[i] = x at d0 d1 b0 b1 b2 p1 p2 p3 p4 HTK
          obtain ⟨bn, data⟩ := x
          dsimp only at d0 d1 b0 b1 b2 p1 p2 p3 p4
          obtain ⟨nn, hnn⟩ : ∃ nn : Nat, bn = nn := ⟨bn.toNat, by omega⟩
          subst hnn
          have hcv := run_strB (b1.drew)
          obtain ⟨ua, uc, rfl⟩ := b1.slice'
          have i1 : (i : Int) < (ws.length : Int) := by omega
          have i2 : (nn : Int) < 44 := by omega
          have hnn : nn < 44 := by omega
          have hw1 : IntKind.i64.wrap ((i : Int) + 1) = (i : Int) + 1 := by rw [IntKind.wrap_i64] <;> (have := HWIN.out.1.1; omega)
          have fz := blk_fro hr2 nn
          have cz : wr.cell? ⟨z + 1, nn, none⟩ = some (.string ⟨(upW (cutTo H1 44) (ws.take i) nn).toArray⟩) := by rw [cell_of_row _ _ _ _ _ _ hr2, arr_get _ _ hnn]
          rw [p3] at d1 hcv
          clear hli hr1 hr2 hvb htk b1 b2 p3
          go_wp2_with fail
          have hxd : Ext wr wr.drew := by (· repeat (first | (with_reducible assumption) | exact Ext.refl _ | refine Ext.alloc ?_ _ | refine Ext.drew ?_ | refine Ext.drewN ?_ _ | (apply Ext.snart; (with_reducible assumption))))
          refine wp_region_T (fun w' => w'.cell? ⟨gr, o + i * 2, none⟩ = some (.int .i64 nn) ∧ w'.cell? ⟨gr, o + i * 2 + 1, none⟩ = some (.slice ua 512 uc) ∧ (convert 22 9 (.slice ua 512 uc)).run Try.prog w' = .ok (.string ⟨data.toArray⟩) w') [12] (by kernel_rfl) ⟨Ext.cellS hxd d0, Ext.cellS hxd d1, hcv⟩ (fun hS => ?_)
          (refine wpAnyT_take (i := 0) (v := ?_) rfl (by kernel_rfl) (by kernel_rfl) (by kernel_rfl) (by kernel_rfl) (fun _ _ _ h => h) (Or.inl ⟨by rfl, ?_⟩) (by assumption) ?_; rotate_left; ((intro wS hSw; (try dsimp only at hSw); (try simp only [List.getElem_toArray, List.getElem_cons_zero, List.getElem_cons_succ]); go_simp); (try with_reducible rfl)); (try simp only [Act.put, List.getElem_toArray, List.getElem_cons_zero, List.getElem_cons_succ, List.setIfInBounds_toArray, List.set_cons_zero, List.set_cons_succ]))
          (refine wpAnyT_take (i := 1) (v := ?_) rfl (by kernel_rfl) (by kernel_rfl) (by kernel_rfl) (by kernel_rfl) (fun _ _ _ h => h) (Or.inl ⟨by rfl, ?_⟩) (by assumption) ?_; rotate_left; ((intro wS hSw; (try dsimp only at hSw); (try simp only [List.getElem_toArray, List.getElem_cons_zero, List.getElem_cons_succ]); go_simp); (try with_reducible rfl)); (try simp only [Act.put, List.getElem_toArray, List.getElem_cons_zero, List.getElem_cons_succ, List.setIfInBounds_toArray, List.set_cons_zero, List.set_cons_succ]))
          (refine wpAnyT_take (i := 2) (v := ?_) rfl (by kernel_rfl) (by kernel_rfl) (by kernel_rfl) (by kernel_rfl) (fun _ _ _ h => h) (Or.inl ⟨by rfl, ?_⟩) (by assumption) ?_; rotate_left; ((intro wS hSw; (try dsimp only at hSw); (try simp only [List.getElem_toArray, List.getElem_cons_zero, List.getElem_cons_succ]); go_simp); (try with_reducible rfl)); (try simp only [Act.put, List.getElem_toArray, List.getElem_cons_zero, List.getElem_cons_succ, List.setIfInBounds_toArray, List.set_cons_zero, List.set_cons_succ]))
          (refine wpAnyT_take (i := 3) (v := ?_) rfl (by kernel_rfl) (by kernel_rfl) (by kernel_rfl) (by kernel_rfl) (fun _ _ _ h => h) (Or.inl ⟨by rfl, ?_⟩) (by assumption) ?_; rotate_left; ((intro wS hSw; (try dsimp only at hSw); (try simp only [List.getElem_toArray, List.getElem_cons_zero, List.getElem_cons_succ]); go_simp); (try with_reducible rfl)); (try simp only [Act.put, List.getElem_toArray, List.getElem_cons_zero, List.getElem_cons_succ, List.setIfInBounds_toArray, List.set_cons_zero, List.set_cons_succ]))
          (refine wpAnyT_take (i := 4) (v := ?_) rfl (by kernel_rfl) (by kernel_rfl) (by kernel_rfl) (by kernel_rfl) (fun _ _ _ h => h) (Or.inl ⟨by rfl, ?_⟩) (by assumption) ?_; rotate_left; ((intro wS hSw; (try dsimp only at hSw); (try simp only [List.getElem_toArray, List.getElem_cons_zero, List.getElem_cons_succ]); go_simp); (try with_reducible rfl)); (try simp only [Act.put, List.getElem_toArray, List.getElem_cons_zero, List.getElem_cons_succ, List.setIfInBounds_toArray, List.set_cons_zero, List.set_cons_succ]))
          (refine wpAnyT_take (i := 5) (v := ?_) rfl (by kernel_rfl) (by kernel_rfl) (by kernel_rfl) (by kernel_rfl) (fun _ _ _ h => h) (Or.inl ⟨by rfl, ?_⟩) (by assumption) ?_; rotate_left; ((intro wS hSw; (try dsimp only at hSw); (try simp only [List.getElem_toArray, List.getElem_cons_zero, List.getElem_cons_succ]); go_simp); (try with_reducible rfl)); (try simp only [Act.put, List.getElem_toArray, List.getElem_cons_zero, List.getElem_cons_succ, List.setIfInBounds_toArray, List.set_cons_zero, List.set_cons_succ]))
          (refine wpAnyT_take (i := 6) (v := ?_) rfl (by kernel_rfl) (by kernel_rfl) (by kernel_rfl) (by kernel_rfl) (fun _ _ _ h => h) (Or.inl ⟨by rfl, ?_⟩) (by assumption) ?_; rotate_left; ((intro wS hSw; (try dsimp only at hSw); (try simp only [List.getElem_toArray, List.getElem_cons_zero, List.getElem_cons_succ]); go_simp); (try with_reducible rfl)); (try simp only [Act.put, List.getElem_toArray, List.getElem_cons_zero, List.getElem_cons_succ, List.setIfInBounds_toArray, List.set_cons_zero, List.set_cons_succ]))
          (refine wpAnyT_take (i := 7) (v := ?_) rfl (by kernel_rfl) (by kernel_rfl) (by kernel_rfl) (by kernel_rfl) (fun _ _ _ h => h) (Or.inl ⟨by rfl, ?_⟩) (by assumption) ?_; rotate_left; ((intro wS hSw; (try dsimp only at hSw); (try simp only [List.getElem_toArray, List.getElem_cons_zero, List.getElem_cons_succ]); go_simp); (try with_reducible rfl)); (try simp only [Act.put, List.getElem_toArray, List.getElem_cons_zero, List.getElem_cons_succ, List.setIfInBounds_toArray, List.set_cons_zero, List.set_cons_succ]))
          (refine wpAnyT_take (i := 8) (v := ?_) rfl (by kernel_rfl) (by kernel_rfl) (by kernel_rfl) (by kernel_rfl) (fun _ _ _ h => h) (Or.inl ⟨by rfl, ?_⟩) (by assumption) ?_; rotate_left; ((intro wS hSw; (try dsimp only at hSw); (try simp only [List.getElem_toArray, List.getElem_cons_zero, List.getElem_cons_succ]); go_simp); (try with_reducible rfl)); (try simp only [Act.put, List.getElem_toArray, List.getElem_cons_zero, List.getElem_cons_succ, List.setIfInBounds_toArray, List.set_cons_zero, List.set_cons_succ]))
          (refine wpAnyT_take (i := 9) (v := ?_) rfl (by kernel_rfl) (by kernel_rfl) (by kernel_rfl) (by kernel_rfl) (fun _ _ _ h => h) (Or.inl ⟨by rfl, ?_⟩) (by assumption) ?_; rotate_left; ((intro wS hSw; (try dsimp only at hSw); (try simp only [List.getElem_toArray, List.getElem_cons_zero, List.getElem_cons_succ]); go_simp); (try with_reducible rfl)); (try simp only [Act.put, List.getElem_toArray, List.getElem_cons_zero, List.getElem_cons_succ, List.setIfInBounds_toArray, List.set_cons_zero, List.set_cons_succ]))
          (refine wpAnyT_take (i := 10) (v := ?_) rfl (by kernel_rfl) (by kernel_rfl) (by kernel_rfl) (by kernel_rfl) (fun _ _ _ h => h) (Or.inl ⟨by rfl, ?_⟩) (by assumption) ?_; rotate_left; ((intro wS hSw; (try dsimp only at hSw); (try simp only [List.getElem_toArray, List.getElem_cons_zero, List.getElem_cons_succ]); go_simp); (try with_reducible rfl)); (try simp only [Act.put, List.getElem_toArray, List.getElem_cons_zero, List.getElem_cons_succ, List.setIfInBounds_toArray, List.set_cons_zero, List.set_cons_succ]))
          refine wpAnyT_all (rs := [11]) (by kernel_rfl) (by decide) (AllT.consS rfl (fun K hK => ?_) AllT.nil)
          go_simp
          (refine hK.out _ _ (hS) (fun hS => ?_); clear hK K)
          refine wpAnyT_all (rs := [12]) (by kernel_rfl) (by decide) (AllT.consF rfl rfl (fun K hK => ?_) AllT.nil)
          go_simp
          (refine hK.out _ _ ?_; clear hK K)
          refine wpAnyT_done (by kernel_rfl) (NoPanic.normal ?_) _
          go_wp2_with fail
          have hk0 : Keep (fun j => j ≠ z + 1) wr (wr.setCell ⟨z + 1, nn, none⟩ (.string ⟨data.toArray⟩)) := (Keep.refl _ _).setCell (by simp) _
          have hkp : Keep (fun j => j ≠ z + 1) wr (wr.setCell ⟨z + 1, nn, none⟩ (.string ⟨data.toArray⟩)).drew := hk0.trans ((Ext.refl (wr.setCell ⟨z + 1, nn, none⟩ (.string ⟨data.toArray⟩))).drew.keep _)
          have hrow : (wr.setCell ⟨z + 1, nn, none⟩ (.string ⟨data.toArray⟩)).drew.heap[z + 1]? = some (.cells (arrL (upW (cutTo H1 44) (ws.take (i + 1)))) 80 (0, 0)) := by
            have h := blk_set (o := nn) HR2.out (.string ⟨data.toArray⟩)
            rw [arr_set] at h
            rw [HTK.out, upW_snoc]
            exact h
          refine ⟨⟨i + 1, rfl, by omega, HLI.out.kept (hkp.mono fun j hj hl => ?_), (hkp.block z (by omega) (by omega)).trans HR1.out, hrow, HVB.out.kept (hkp.mono fun j hj _ => by omega)⟩, by simp only [intOf]; omega⟩
          rcases hj with (hj | hj) | hj
          · have := HL5.out.hm.dv.rlt j hj; omega
          · have := HL5.out.hm.ex.size; omega
          · omega
        · have hie : i = ws.length := by omega
          subst hie
          have i1 : ¬ ((ws.length : Nat) : Int) < (ws.length : Int) := by omega
          rw [List.take_length] at hr2
          have HR2 := hid hr2
          clear hli hr1 hr2 hvb
          go_wp2_with fail
          refine (Pick_any _ k2 60 HK2.out (by omega) (by omega)).mono ?_
          rintro e w' ⟨rfl, rfl⟩
          have hpl := pickF_lt k2 (60 : Int).toNat (by decide)
          generalize pickF k2 (60 : Int).toNat = kk at hpl ⊢
          have hpl : kk < 60 := hpl
          go_wp2_with fail
          refine (LFuse HLI.out kk (by omega)).mono ?_
          rintro e wf ⟨rfl, df, hlf, hkf⟩
          have hnz1 : z ≠ g := HNG.out z (HL5.out.hm.late (Ext.refl _) (by omega))
          have hnz2 : z + 1 ≠ g := HNG.out (z + 1) (HL5.out.hm.late (Ext.refl _) (by omega))
          have HR1F := hid ((hkf.block z hnz1 (by omega)).trans HR1.out)
          have HR2F := hid ((hkf.block (z + 1) hnz2 (by omega)).trans HR2.out)
          have HVBF := hid ((HVB.out.kept (hkf.mono fun j hj _ => HNG.out j hj.1.1)).mono (S' := fun j => ρ5 j = none ∧ j ≠ gl) fun j hj _ => hj.1)
          have HLF := hid hlf
          have hzf := hkf.size
          clear hlf hkf
          go_wp2_with fail
          refine (LCommitI HLF.out (by omega) (by omega) (by omega) _ _ HVBF.out HWIN.out).mono ?_
          rintro e wg ⟨ok, ρ9, d9, rfl, hdn, hr9, hk9, hm9, hl9, hi9⟩
          have hr1g := (hk9.block z ⟨HL5.out.hm.late (Ext.refl _) (by omega), by omega⟩ (by omega)).trans HR1F.out
          have hr2g := (hk9.block (z + 1) ⟨HL5.out.hm.late (Ext.refl _) (by omega), by omega⟩ (by omega)).trans HR2F.out
          have n91 : ρ9 z = none := rol_old hr9 (HL5.out.hm.late (Ext.refl _) (by omega)) (by omega)
          have n92 : ρ9 (z + 1) = none := rol_old hr9 (HL5.out.hm.late (Ext.refl _) (by omega)) (by omega)
          have HR1G := hid hr1g
          have HR2G := hid hr2g
          have HM9 := hid hm9
          have HL9 := hid hl9
          have HI9 := hid hi9
          have hz9 := hk9.size
          clear hr9 hk9 hm9 hl9 hi9 hr1g hr2g
          have hec : ((if ok = true then (0 : Int) else 2) == 0) = ok := by cases ok <;> rfl
          have hne : ((if ok = true then (0 : Int) else 2) != 0) = !ok := by cases ok <;> rfl
          generalize (if ok = true then (0 : Int) else 2) = ec at hec hne
          go_wp2_with fail
          refine (LCrash HM9.out (by omega) HL9.out (fun s => Lies 64 (n5 + 1) s fun G => (ok = false ∧ G = H1) ∨ G = wcurF 0 ws 0 H1) HI9.out (fun j => j < w.heap.size) _ more (HV4.out.ext (HX1.out.trans HM9.out.ex)) (fun j hj _ => by
            by_cases e : ρ9 j = none
            · exact e
            · have := HM9.out.nw j e; have := HX1.out.size; omega)).mono ?_
          rintro e wc ⟨rfl, dc, hmc, hcc, hsc, hlc, ⟨n', H0, res, hn', hst, hwi, hG⟩, hkc⟩
          have hr1c := row_past hkc HR1G.out n91
          have hr2c := row_past hkc HR2G.out n92
          have hzc := hkc.size
          have hop := LOpen hmc (by omega) hcc hsc hlc (by omega) (n := n') (by omega) hst hwi
          have HOP := hid hop
          have HR1C := hid hr1c
          have HR2C := hid hr2c
          have HG := hid hG
          clear hmc hcc hsc hlc hst hwi hkc hop hr1c hr2c hG
          go_wp2_with fail
          refine HOP.out.mono ?_
          rintro e wo ⟨ρo, do', gm, rfl, hlo, hco, hro, hko, hgm⟩
          have HR1O := hid (row_past hko HR1C.out n91)
          have HR2O := hid (row_past hko HR2C.out n92)
          have n93 : ρo z = none := rol_old hro n91 (by omega)
          have n94 : ρo (z + 1) = none := rol_old hro n92 (by omega)
          have hg := HG.out
          generalize Hn H0 res = Hf at hlo hg
          have HG2 := hid hg
          have HLO := hid hlo
          have HCO := hid hco
          have hzo := hko.size
          clear hlo hco hro hko HOP HG hg
          go_wp2_with fail
          go_loopw [29, 30, 31] (fun u24 u25 u26 wq => ∃ (i : Nat) (bW bI : Bool) (di : Dv), u24 = .bool bW ∧ u25 = .bool bI ∧ u26 = .int .i64 i ∧ i ≤ 44 ∧ LogAt w1 wq g ρo (6000 + i) di gm 64 (n' + 1) Hf ∧ Calm di ∧ wq.heap[z]? = some (.cells (arrL (cutTo H1 44)) 80 (0, 0)) ∧ wq.heap[z + 1]? = some (.cells (arrL (upW (cutTo H1 44) ws)) 80 (0, 0)) ∧ ((Hf = H1 ∧ Hf ≠ wcurF 0 ws 0 H1) → bW = true) ∧ (Hf = wcurF 0 ws 0 H1 → bI = true)) (fun _ _ u26 _ => 44 - (intOf u26).toNat)
          case atStart =>
            refine ⟨0, !ok, true, _, rfl, rfl, rfl, Nat.zero_le _, { HLO.out with hm := HLO.out.hm.mono (by omega) }, HCO.out, HR1O.out, HR2O.out, ?_, fun _ => rfl⟩
            rintro ⟨h1, h2⟩
            rcases HG2.out with ⟨h3, -⟩ | h3
            · rw [h3]; rfl
            · exact absurd h3 h2
          case round =>
            clear HLO HCO HR1O HR2O
            obtain ⟨i, bW, bI, di, rfl, rfl, rfl, hi, hli, hci, hr1, hr2, hW, hI⟩ := hrel
            have HLI := hid hli
            have HCI := hid hci
            have HW := hid hW
            have HI := hid hI
            have HR1 := hid hr1
            have HR2 := hid hr2
            have hzr : z + 1 < wr.heap.size := (Array.getElem?_eq_some_iff.1 hr2).1
            clear hli hci hW hI hr1 hr2
            by_cases hlt : i < 44
            · have i1 : (i : Int) < 44 := by omega
              have hngo : ∀ j, ρo j = none → j ≠ g := fun j hj e => by
                obtain ⟨_, _, _, h⟩ := HLI.out.hm.dv
                rw [e, h.rg] at hj; cases hj
              have hgmz : gm ≠ z ∧ gm ≠ z + 1 := by omega
              have hnz1 := hngo z n93
              have hnz2 := hngo (z + 1) n94
              have hw1 : IntKind.i64.wrap ((i : Int) + 1) = (i : Int) + 1 := by rw [IntKind.wrap_i64]; omega
              clear hngo
              go_wp2_with fail
              refine (LRead HLI.out HCI.out (by omega) (by omega) i (by omega)).mono ?_
              rintro e w8 ⟨kx, rfl, hkx, hrx, -, d8, hl8, hc8, hk8⟩
              have hr1 := (hk8.block z ⟨hnz1, fun e => hgmz.1 e.symm⟩ (by omega)).trans HR1.out
              have hr2 := (hk8.block (z + 1) ⟨hnz2, fun e => hgmz.2 e.symm⟩ (by omega)).trans HR2.out
              have c1 : w8.cell? ⟨z, i, none⟩ = some (.string ⟨(H1 (20 + i)).toArray⟩) := by rw [cell_of_row _ _ _ _ _ _ hr1, arr_get _ _ hlt, show cutTo H1 44 i = H1 (20 + i) from if_pos hlt]
              have c2 : w8.cell? ⟨z + 1, i, none⟩ = some (.string ⟨(wcurF 0 ws 0 H1 (20 + i)).toArray⟩) := by
                rw [cell_of_row _ _ _ _ _ _ hr2, arr_get _ _ hlt, upW_wcur ws _ H1 0 (fun p hp => (HWIN.out.1.2 p hp).1) (fun j hj => show cutTo H1 44 j = H1 (20 + j) from if_pos hj) i hlt]
              have e1 : Hf = H1 ∧ Hf ≠ wcurF 0 ws 0 H1 → Hf (20 + (i : Int)) = H1 (20 + i) := fun h => by rw [h.1]
              have e2 : Hf = wcurF 0 ws 0 H1 → Hf (20 + (i : Int)) = wcurF 0 ws 0 H1 (20 + i) := fun h => by rw [← h]
              have hW2 := bool_step HW.out e1
              have hI2 := bool_step HI.out e2
              generalize Hf (20 + (i : Int)) = X at hrx hW2 hI2
              generalize H1 (20 + (i : Int)) = Y at c1 hW2
              generalize wcurF 0 ws 0 H1 (20 + (i : Int)) = Z at c2 hI2
              have hsc := fun n => run_strB (hrx.ext ((Ext.refl _).drewN n))
              have HEND := hid (show ∀ W, Ext w8 W → ∀ b1 b2 : Bool, b1 = (bW && decide (X = Y)) → b2 = (bI && decide (X = Z)) → ∃ (i' : Nat) (bW' bI' : Bool) (di' : Dv), Value.bool b1 = .bool bW' ∧ Value.bool b2 = .bool bI' ∧ Value.int .i64 ((i : Int) + 1) = .int .i64 i' ∧ i' ≤ 44 ∧ LogAt w1 W g ρo (6000 + i') di' gm 64 (n' + 1) Hf ∧ Calm di' ∧ W.heap[z]? = some (.cells (arrL (cutTo H1 44)) 80 (0, 0)) ∧ W.heap[z + 1]? = some (.cells (arrL (upW (cutTo H1 44) ws)) 80 (0, 0)) ∧ ((Hf = H1 ∧ Hf ≠ wcurF 0 ws 0 H1) → bW' = true) ∧ (Hf = wcurF 0 ws 0 H1 → bI' = true) from
                fun W hW b1 b2 hb1 hb2 => ⟨i + 1, b1, b2, d8, rfl, rfl, rfl, by omega, { hl8 with hm := (hl8.hm.ext hW).mono (by omega), log := hl8.log.ext hW }, hc8, row_ext hW hr1, row_ext hW hr2, fun h => by rw [hb1]; exact hW2 h, fun h => by rw [hb2]; exact hI2 h⟩)
              clear hrx hl8 hc8 hk8 hr1 hr2 e1 e2 hW2 hI2 HW HI HR1 HR2 HLI HCI
              by_cases q1 : X = Y <;> by_cases q2 : X = Z <;> cases bW <;> cases bI
              all_goals
                go_wp2_with fail
                go_quiet (fail)
                go_wp2_with fail
                go_quiet (fail)
                go_wp2_with fail
                refine ⟨HEND.out _ ?_ _ _ ?_ ?_, ?_⟩
                · (· repeat (first | (with_reducible assumption) | exact Ext.refl _ | refine Ext.alloc ?_ _ | refine Ext.drew ?_ | refine Ext.drewN ?_ _ | (apply Ext.snart; (with_reducible assumption))))
                · first | (simp [q1, q2]; done) | (rw [Bool.eq_iff_iff]; simp [q1, q2]; done)
                · first | (simp [q1, q2]; done) | (rw [Bool.eq_iff_iff]; simp [q1, q2]; done)
                · simp only [intOf]; omega
            · have hie : i = 44 := by omega
              subst hie
              have i1 : ¬ (((44 : Nat) : Int) < 44) := by omega
              have HBB := hid (show bW = true ∨ bI = true by
                by_cases h : Hf = wcurF 0 ws 0 H1
                · exact .inr (HI.out h)
                · rcases HG2.out with ⟨-, h2⟩ | h2
                  · exact .inl (HW.out ⟨h2, h⟩)
                  · exact absurd h2 h)
              have HXX := hid (HX1.out.trans HLI.out.hm.ex)
              clear HI HW HLI HCI HR1 HR2
              cases bW <;> cases bI
              · exact absurd HBB.out (by simp)
              all_goals
                go_wp2_with fail
                go_ret
                exact ⟨rfl, HXX.out⟩
end Go.Proofs.Ytgbiffpnfpdcoaa
