/- Map.Bytes, walked. -/
import Derived.Test.YtbpcgfplokkfpaaAlN
import Derived.Test.YtbpcgfplokkfpaaAlB
import Derived.Test.YtbpcgfplokkfpaaAppZ
import Derived.Test.YtbpcgfplokkfpaaPutA
import Derived.Test.YtbpcgfplokkfpaaOwB
import Derived.Test.YtbpcgfplokkfpaaRegT
namespace Go.Proofs.Ytbpcgfplokkfpaa
open Go.RowKit
set_option linter.unusedVariables false
set_option linter.unusedSimpArgs false

theorem or_bit : ∀ (x : Fin 256) (r : Fin 8), x.val < 2 ^ r.val → bits BinOp.or IntKind.u8 ((x.val : Nat) : Int) (2 ^ r.val % 256) = (((x.val + 2 ^ r.val : Nat)) : Int) := by decide +kernel
theorem or_byte (now : List Bool) (j r : Nat) (hr : r < 8) : bits BinOp.or IntKind.u8 (((UInt8.ofNat (byteTo now j r)).toNat : Nat) : Int) (2 ^ r % 256) = (((UInt8.ofNat (byteTo now j r + 2 ^ r)).toNat : Nat) : Int) := by
  have h1 := byteTo_lt now j r
  have h2 : 2 ^ r ≤ 128 := Nat.pow_le_pow_right (n := 2) (by omega) (show r ≤ 7 by omega)
  rw [UInt8.toNat_ofNat_of_lt' (by show _ < 256; omega), UInt8.toNat_ofNat_of_lt' (by show _ < 256; omega)]
  exact or_bit ⟨byteTo now j r, by omega⟩ ⟨r, hr⟩ h1

set_option maxRecDepth 100000 in
set_option maxHeartbeats 1000000 in
theorem MBytes_any (T : Nat → Prop) (w : World) (g : Nat) (now last : List Bool) (h : MapAt T w g now last) :
    Calls Try.prog 29 #[.pointer (some ⟨g, 0, none⟩)] w (NewB (mapB now) w) := by
  obtain ⟨vn, vl, h1, h2, h3, h4, h5, -⟩ := h
  have c0 : w.cell? ⟨g, 0, none⟩ = some vn := (cell_of_row _ _ 0 _ _ _ h1).trans rfl
  obtain ⟨na, nc, rfl⟩ := h2.slice
  have H2 := hid h2
  have hpl := putU_len now.length
  clear h1 h2 h3 h4
  go_enter Try.func29, Try.ntmps29
  go_wp2_with (first | ((go_at_call 58; go_must (refine Calls.mono (PutUint_any _ _ ?_ _ ?_ ?_ ?_) ?_; rotate_left; (first | (with_reducible assumption) | (exact RdB.nil _) | (apply RdB.ext; (with_reducible assumption); (· repeat (first | (with_reducible assumption) | exact Ext.refl _ | refine Ext.alloc ?_ _ | refine Ext.drew ?_ | refine Ext.drewN ?_ _ | (apply Ext.snart; (with_reducible assumption)))))); (first | omega | (simp only [List.length_append, List.length_cons, List.length_nil]; omega) | omega); (first | omega | (simp only [List.length_append, List.length_cons, List.length_nil]; omega) | omega); (rintro e w' ⟨v', rfl, ho', hb'⟩; have hr' := rdB_own ho'; obtain ⟨a', c', rfl⟩ := OwnB.slice ho'; (try simp only [List.nil_append, List.length_append, List.length_cons, List.length_nil, Nat.zero_add, Nat.reduceAdd] at ho' hr'); have hx' := Ext.of hb'; clear hb'))); have c1 := hx'.cellS c0) | (at_builtin; go_must (refine wl_appZ rfl _ _ rfl _ _ _ rfl (appB_own ho') ((now.length + 7) / 8) rfl ?_ ?_ ?_; omega; exact hx'.size; intro v2 w2 k1 k2 k3 k4 k5 k6; have ho2 := k3 ho'; have hx2 := Ext.step hx' k5 (Nat.le_refl _); clear k1 k2 k3 k4 k5 k6 ho' hr'; have c2 := hx2.cellS c0; obtain ⟨a2, cc2, rfl⟩ := OwnB.slice ho2; simp only [List.length_append, List.length_replicate] at ho2)))
  obtain ⟨L, hL⟩ : ∃ L, L = (putU now.length).length + (now.length + 7) / 8 := ⟨_, rfl⟩
  have HO2 := hid ho2
  have HX2 := hid hx2
  clear hx' c1 ho2 hx2 c2
  go_loopw [32] (fun u32 wr => ∃ i : Nat, u32 = .int .i64 i ∧ i ≤ now.length ∧ OwnB wr w.heap.size (.slice a2 ((putU now.length).length + (now.length + 7) / 8) cc2) (putU now.length ++ restTo now i) ∧ Ext w wr) (fun u32 _ => now.length - (intOf u32).toNat)
  case atStart => exact ⟨0, rfl, by omega, by rw [restTo_zero]; exact HO2.out, HX2.out⟩
  case round =>
    obtain ⟨wo, rfl⟩ : ∃ wo : World, wo = wr := ⟨_, rfl⟩
    obtain ⟨i, rfl, hi, ho, hx⟩ := hrel
    have HO := hid ho
    have HX := hid hx
    by_cases hlt : i < now.length
    · obtain ⟨gn, on, cn, en, hgn, -, zn⟩ := (H2.out.rdT.ext hx).atB i hlt
      simp only [Value.slice.injEq] at en
      obtain ⟨rfl, -, rfl⟩ := en
      have hll : (putU now.length ++ restTo now i).length = (putU now.length).length + (now.length + 7) / 8 := by rw [List.length_append, restTo_len]
      obtain ⟨gb, cb, eb, hgb, hgb2⟩ := ownB_block ho (by omega)
      simp only [Value.slice.injEq] at eb
      obtain ⟨rfl, -, rfl⟩ := eb
      have hjl : (putU now.length).length + i / 8 < (putU now.length ++ restTo now i).length := by omega
      have zb := ownB_cell ho ((putU now.length).length + i / 8) hjl
      have fb := ownB_frozen ho hll.symm ((putU now.length).length + i / 8)
      have hge : (putU now.length ++ restTo now i)[(putU now.length).length + i / 8] = UInt8.ofNat (byteTo now (i / 8) (i % 8)) := by
        rw [List.getElem_append_right (by omega)]
        have h1 := restTo_at now i hlt
        rw [List.getElem?_eq_getElem (by rw [restTo_len]; omega)] at h1
        simpa using h1
      rw [hge] at zb
      have hor := or_byte now (i / 8) (i % 8) (by omega)
      have HST := hid (restTo_step now i hlt)
      have HSM := hid (restTo_same now i hlt)
      generalize hb : now[i] = b at zn HST HSM
      clear hb hge
      cases b
      · go_wp2_with fail
        go_roundw
        case rel => exact ⟨i + 1, by go_num, by omega, by rw [HSM.out rfl]; exact HO.out, HX.out⟩
        case measure => simp [intOf]; omega
      · go_wp2_with fail
        have hw0 : IntKind.i64.wrap ((i : Int) / 8) = (i : Int) / 8 := by rw [IntKind.wrap_i64]; omega
        have hw1 : IntKind.i64.wrap (((putU now.length).length : Int) + (i : Int) / 8) = ((putU now.length).length : Int) + (i : Int) / 8 := by rw [IntKind.wrap_i64]; omega
        have hi1 : (0 : Int) ≤ ((putU now.length).length : Int) + (i : Int) / 8 := by omega
        have hi2 : ((putU now.length).length : Int) + (i : Int) / 8 < ((putU now.length).length : Int) + ((now.length : Int) + 7) / 8 := by omega
        have hi3 : (((putU now.length).length : Int) + (i : Int) / 8).toNat = (putU now.length).length + i / 8 := by omega
        obtain ⟨r, hr⟩ : ∃ r, r = i % 8 := ⟨_, rfl⟩
        have q2 : (i : Int).tmod 8 = (r : Int) := by rw [Int.tmod_eq_emod_of_nonneg (by omega)]; omega
        have hr8 : r < 8 := by omega
        rw [← hr] at hor zb HST
        clear hr
        clear c0 ho hx hjl
        have hxd : Ext wo wo.drew := by (· repeat (first | (with_reducible assumption) | exact Ext.refl _ | refine Ext.alloc ?_ _ | refine Ext.drew ?_ | refine Ext.drewN ?_ _ | (apply Ext.snart; (with_reducible assumption))))
        refine wp_region_T (fun w' => w'.cell? ⟨gb, (putU now.length).length + i / 8, none⟩ = some (.int .u8 (((UInt8.ofNat (byteTo now (i / 8) r)).toNat : Nat) : Int))) [12] (by kernel_rfl) (hxd.cellS zb) (fun hS => ?_)
        (refine wpAnyT_take (i := 0) (v := ?_) rfl (by kernel_rfl) (by kernel_rfl) (by kernel_rfl) (by kernel_rfl) (fun _ _ _ h => h) (Or.inl ⟨by rfl, ?_⟩) (by assumption) ?_; rotate_left; ((intro wS hSw; (try dsimp only at hSw); (try simp only [List.getElem_toArray, List.getElem_cons_zero, List.getElem_cons_succ]); go_simp); (try with_reducible rfl)); (try simp only [Act.put, List.getElem_toArray, List.getElem_cons_zero, List.getElem_cons_succ, List.setIfInBounds_toArray, List.set_cons_zero, List.set_cons_succ]))
        (refine wpAnyT_take (i := 1) (v := ?_) rfl (by kernel_rfl) (by kernel_rfl) (by kernel_rfl) (by kernel_rfl) (fun _ _ _ h => h) (Or.inl ⟨by rfl, ?_⟩) (by assumption) ?_; rotate_left; ((intro wS hSw; (try dsimp only at hSw); (try simp only [List.getElem_toArray, List.getElem_cons_zero, List.getElem_cons_succ]); go_simp); (try with_reducible rfl)); (try simp only [Act.put, List.getElem_toArray, List.getElem_cons_zero, List.getElem_cons_succ, List.setIfInBounds_toArray, List.set_cons_zero, List.set_cons_succ]))
        (refine wpAnyT_take (i := 2) (v := ?_) rfl (by kernel_rfl) (by kernel_rfl) (by kernel_rfl) (by kernel_rfl) (fun _ _ _ h => h) (Or.inl ⟨by rfl, ?_⟩) (by assumption) ?_; rotate_left; ((intro wS hSw; (try dsimp only at hSw); (try simp only [List.getElem_toArray, List.getElem_cons_zero, List.getElem_cons_succ]); go_simp); (try with_reducible rfl)); (try simp only [Act.put, List.getElem_toArray, List.getElem_cons_zero, List.getElem_cons_succ, List.setIfInBounds_toArray, List.set_cons_zero, List.set_cons_succ]))
        (refine wpAnyT_take (i := 3) (v := ?_) rfl (by kernel_rfl) (by kernel_rfl) (by kernel_rfl) (by kernel_rfl) (fun _ _ _ h => h) (Or.inl ⟨by rfl, ?_⟩) (by assumption) ?_; rotate_left; ((intro wS hSw; (try dsimp only at hSw); (try simp only [List.getElem_toArray, List.getElem_cons_zero, List.getElem_cons_succ]); go_simp); (try with_reducible rfl)); (try simp only [Act.put, List.getElem_toArray, List.getElem_cons_zero, List.getElem_cons_succ, List.setIfInBounds_toArray, List.set_cons_zero, List.set_cons_succ]))
        (refine wpAnyT_take (i := 4) (v := ?_) rfl (by kernel_rfl) (by kernel_rfl) (by kernel_rfl) (by kernel_rfl) (fun _ _ _ h => h) (Or.inl ⟨by rfl, ?_⟩) (by assumption) ?_; rotate_left; ((intro wS hSw; (try dsimp only at hSw); (try simp only [List.getElem_toArray, List.getElem_cons_zero, List.getElem_cons_succ]); go_simp); (try with_reducible rfl)); (try simp only [Act.put, List.getElem_toArray, List.getElem_cons_zero, List.getElem_cons_succ, List.setIfInBounds_toArray, List.set_cons_zero, List.set_cons_succ]))
        (refine wpAnyT_take (i := 5) (v := ?_) rfl (by kernel_rfl) (by kernel_rfl) (by kernel_rfl) (by kernel_rfl) (fun _ _ _ h => h) (Or.inl ⟨by rfl, ?_⟩) (by assumption) ?_; rotate_left; ((intro wS hSw; (try dsimp only at hSw); (try simp only [List.getElem_toArray, List.getElem_cons_zero, List.getElem_cons_succ]); go_simp); (try with_reducible rfl)); (try simp only [Act.put, List.getElem_toArray, List.getElem_cons_zero, List.getElem_cons_succ, List.setIfInBounds_toArray, List.set_cons_zero, List.set_cons_succ]))
        (refine wpAnyT_take (i := 6) (v := ?_) rfl (by kernel_rfl) (by kernel_rfl) (by kernel_rfl) (by kernel_rfl) (fun _ _ _ h => h) (Or.inl ⟨by rfl, ?_⟩) (by assumption) ?_; rotate_left; ((intro wS hSw; (try dsimp only at hSw); (try simp only [List.getElem_toArray, List.getElem_cons_zero, List.getElem_cons_succ]); go_simp); (try with_reducible rfl)); (try simp only [Act.put, List.getElem_toArray, List.getElem_cons_zero, List.getElem_cons_succ, List.setIfInBounds_toArray, List.set_cons_zero, List.set_cons_succ]))
        (refine wpAnyT_take (i := 7) (v := ?_) rfl (by kernel_rfl) (by kernel_rfl) (by kernel_rfl) (by kernel_rfl) (fun _ _ _ h => h) (Or.inl ⟨by rfl, ?_⟩) (by assumption) ?_; rotate_left; ((intro wS hSw; (try dsimp only at hSw); (try simp only [List.getElem_toArray, List.getElem_cons_zero, List.getElem_cons_succ]); go_simp); (try with_reducible rfl)); (try simp only [Act.put, List.getElem_toArray, List.getElem_cons_zero, List.getElem_cons_succ, List.setIfInBounds_toArray, List.set_cons_zero, List.set_cons_succ]))
        (refine wpAnyT_take (i := 8) (v := ?_) rfl (by kernel_rfl) (by kernel_rfl) (by kernel_rfl) (by kernel_rfl) (fun _ _ _ h => h) (Or.inl ⟨by rfl, ?_⟩) (by assumption) ?_; rotate_left; ((intro wS hSw; (try dsimp only at hSw); (try simp only [List.getElem_toArray, List.getElem_cons_zero, List.getElem_cons_succ]); go_simp); (try with_reducible rfl)); (try simp only [Act.put, List.getElem_toArray, List.getElem_cons_zero, List.getElem_cons_succ, List.setIfInBounds_toArray, List.set_cons_zero, List.set_cons_succ]))
        (refine wpAnyT_take (i := 9) (v := ?_) rfl (by kernel_rfl) (by kernel_rfl) (by kernel_rfl) (by kernel_rfl) (fun _ _ _ h => h) (Or.inl ⟨by rfl, ?_⟩) (by assumption) ?_; rotate_left; ((intro wS hSw; (try dsimp only at hSw); (try simp only [List.getElem_toArray, List.getElem_cons_zero, List.getElem_cons_succ]); go_simp); (try with_reducible rfl)); (try simp only [Act.put, List.getElem_toArray, List.getElem_cons_zero, List.getElem_cons_succ, List.setIfInBounds_toArray, List.set_cons_zero, List.set_cons_succ]))
        (refine wpAnyT_take (i := 10) (v := ?_) rfl (by kernel_rfl) (by kernel_rfl) (by kernel_rfl) (by kernel_rfl) (fun _ _ _ h => h) (Or.inl ⟨by rfl, ?_⟩) (by assumption) ?_; rotate_left; ((intro wS hSw; (try dsimp only at hSw); (try simp only [List.getElem_toArray, List.getElem_cons_zero, List.getElem_cons_succ]); go_simp); (try with_reducible rfl)); (try simp only [Act.put, List.getElem_toArray, List.getElem_cons_zero, List.getElem_cons_succ, List.setIfInBounds_toArray, List.set_cons_zero, List.set_cons_succ]))
        (refine wpAnyT_take (i := 11) (v := ?_) rfl (by kernel_rfl) (by kernel_rfl) (by kernel_rfl) (by kernel_rfl) (fun _ _ _ h => h) (Or.inl ⟨by rfl, ?_⟩) (by assumption) ?_; rotate_left; ((intro wS hSw; (try dsimp only at hSw); (try simp only [List.getElem_toArray, List.getElem_cons_zero, List.getElem_cons_succ]); go_simp); (try with_reducible rfl)); (try simp only [Act.put, List.getElem_toArray, List.getElem_cons_zero, List.getElem_cons_succ, List.setIfInBounds_toArray, List.set_cons_zero, List.set_cons_succ]))
        refine wpAnyT_all (rs := [12]) (by kernel_rfl) (by decide) (AllT.consF rfl rfl (fun K hK => ?_) AllT.nil)
        go_simp
        (refine hK.out _ _ ?_; clear hK K)
        refine wpAnyT_done (by kernel_rfl) (NoPanic.normal ?_) _
        go_wp2_with fail
        go_roundw
        case rel =>
          have e1 : (Value.int IntKind.u8 (bits BinOp.or IntKind.u8 ((byteTo now (i / 8) r : Int) % 256) (2 ^ r % 256))) = bv (UInt8.ofNat (byteTo now (i / 8) r + 2 ^ r)) := by
            have := hor
            simp only [UInt8.toNat_ofNat'] at this
            unfold bv
            rw [← hor]
            simp
          have e2 := ownB_set HO.out hll.symm ((putU now.length).length + i / 8) (UInt8.ofNat (byteTo now (i / 8) r + 2 ^ r))
          rw [List.set_append_right _ _ (by omega), Nat.add_sub_cancel_left] at e2
          have e3 := HST.out
          simp only [if_true] at e3
          refine ⟨i + 1, by go_num, by omega, ?_, ?_⟩
          · rw [e1, e3]; exact e2.ext ((Ext.refl _).drew)
          · exact (HX.out.setCell hgb _).drew
        case measure => simp [intOf]; omega
    · obtain rfl : i = now.length := by omega
      go_wp2_with fail
      go_ret
      exact ⟨_, rfl, by rw [restTo_all] at ho; exact ho, hx⟩
end Go.Proofs.Ytbpcgfplokkfpaa
