/- The document's map: All, Bytes, walked. -/
import Derived.Test.YtbpcgfplokkfpaaRAlB
import Derived.Test.YtbpcgfplokkfpaaRefU
import Derived.Test.YtbpcgfplokkfpaaOwB
namespace Go.Proofs.Ytbpcgfplokkfpaa
open Go.RowKit
set_option linter.unusedVariables false
set_option linter.unusedSimpArgs false

set_option maxRecDepth 100000 in
set_option maxHeartbeats 2000000 in
theorem RAll_any (T : Nat → Prop) (w : World) (g : Nat) (now last : List Bool) (h : RMapAt T w g now last) :
    Calls Try.prog 62 #[.pointer (some ⟨g, 0, none⟩)] w fun e w' => ∃ v, e = .returned v ∧ OwnR w' w.heap.size v (whole (natI (freeIdx now last))) ∧ Ext w w' := by
  obtain ⟨an, cn, al, cl, c0, c1, -, -, -, h5, -⟩ := h.cells
  have H := hid h
  clear h c1
  go_enter Try.func62, Try.ntmps62
  go_wp2_with fail
  go_loopw [3, 4] (fun u3 u4 wr => ∃ i : Nat, u4 = .int .i64 i ∧ i ≤ now.length ∧ OwnI wr w.heap.size u3 (natI (freeBelow now last i)) ∧ Ext w wr) (fun _ u4 _ => now.length - (intOf u4).toNat)
  case atStart => exact ⟨0, rfl, by omega, by simpa [freeBelow_zero, natI] using OwnI.nil w _, Ext.refl _⟩
  case round =>
    obtain ⟨wo, rfl⟩ : ∃ wo : World, wo = wr := ⟨_, rfl⟩
    obtain ⟨i, rfl, hi, hu, hx⟩ := hrel
    obtain ⟨au, cu, rfl⟩ := OwnI.slice hu
    rw [natI_len] at hu ⊢
    have hle := freeBelow_len now last i
    have HU := hid hu
    have HX := hid hx
    have c2 := hx.cellS c0
    clear hu hx
    by_cases hlt : i < now.length
    · have HY := hid (freeBelow_yes (now := now) (last := last) (n := i))
      have HNO := hid (freeBelow_no (now := now) (last := last) (n := i))
      go_wp2_with fail
      refine (rmay_any T wo g now last (H.out.ext HX.out) i hlt).mono ?_
      rintro e w' ⟨rfl, rfl⟩
      generalize freeAt now last i = f at HY HNO ⊢
      cases f
      · go_wp2_with fail
        go_roundw
        case rel => exact ⟨i + 1, by go_num, by omega, by rw [HNO.out (by simp)]; exact HU.out, HX.out⟩
        case measure => simp [intOf]; omega
      · have HS := hid (src_int wo wo.heap.size (i : Int) rfl)
        have HOA := hid (HU.out.ext ((Ext.refl wo).alloc (.cells #[.int .i64 (i : Int)] 3)))
        have hwsz := HX.out.size
        go_wp2_with (at_builtin; go_must (refine wl_appI rfl _ _ _ rfl w.heap.size _ (natI (freeBelow now last i)) rfl HOA.out _ [(i : Int)] rfl HS.out (by simp only [List.length_singleton, natI_len]; omega) (by simp; omega) ?_; intro v' w' k1 k4 k5 k6))
        go_roundw
        case rel => exact ⟨i + 1, by go_num, by omega, by rw [HY.out (by simp), natI_snoc]; exact k1, Ext.step (HX.out.alloc _) k5 (Nat.le_refl _)⟩
        case measure => simp [intOf]; omega
    · obtain rfl : i = now.length := by omega
      have hin := natI_in (l := freeBelow now last now.length) (m := now.length) (fun b hb => (freeBelow_mem.1 hb).1) h5
      have HIN := hid hin
      clear hin
      go_wp2_with fail
      refine (Whole_any _ _ (natI (freeBelow now last now.length)) HU.out.rd (by rw [natI_len]; omega) HIN.out).mono ?_
      rintro e w9 ⟨v9, rfl, ho9, -, hb9⟩
      have hx9 : Ext wo w9 := hb9
      have HO9 := hid ho9
      have HX9 := hid hx9
      clear ho9 hb9 hx9
      go_wp2_with fail
      go_ret
      exact ⟨v9, rfl, HO9.out.low HX.out.size, HX.out.trans HX9.out⟩

set_option maxRecDepth 100000 in
set_option maxHeartbeats 4000000 in
theorem RMBytes_any (T : Nat → Prop) (w : World) (g : Nat) (now last : List Bool) (h : RMapAt T w g now last) :
    Calls Try.prog 64 #[.pointer (some ⟨g, 0, none⟩)] w (NewB (mapB now) w) := by
  obtain ⟨an, cn, al, cl, c0, c1, h2, -, -, h5, -⟩ := h.cells
  have H2 := hid h2
  have hpl := putU_len now.length
  clear h c1 h2
  go_enter Try.func64, Try.ntmps64
  go_wp2_with (first | (go_at_call 80; go_must (refine Calls.mono (RPutUint_any _ _ ?_) ?_; (first | omega | (simp only [List.length_append, List.length_cons, List.length_nil]; omega) | omega); (rintro e w' ⟨v', rfl, ho', hb'⟩; have hr' := rdB_own ho'; obtain ⟨a', c', rfl⟩ := OwnB.slice ho'; (try simp only [List.nil_append, List.length_append, List.length_cons, List.length_nil, Nat.zero_add, Nat.reduceAdd] at ho' hr'); have hx' := Ext.of hb'; clear hb'))))
  have HO := hid ho'
  have HX := hid hx'
  clear ho' hr' hx'
  go_loopw [3, 4] (fun u3 u4 wr => ∃ j n : Nat, n = 8 * j ∧ u4 = .int .i64 (n : Int) ∧ j ≤ (now.length + 7) / 8 ∧ OwnB wr w.heap.size u3 (putU now.length ++ (mapRest now).take j) ∧ Ext w wr) (fun _ u4 _ => now.length + 7 - (intOf u4).toNat)
  case atStart => exact ⟨0, 0, rfl, rfl, by omega, by simpa using HO.out, HX.out⟩
  case round =>
    obtain ⟨wo, rfl⟩ : ∃ wo : World, wo = wr := ⟨_, rfl⟩
    obtain ⟨j, n, hnj, rfl, hj, hu, hx⟩ := hrel
    obtain ⟨au, cu, rfl⟩ := OwnB.slice hu
    have hlu : (putU now.length ++ (mapRest now).take j).length = (putU now.length).length + j := by rw [List.length_append, List.length_take, mapRest_len]; omega
    rw [hlu] at hu ⊢
    have HU := hid hu
    have HX := hid hx
    have c2 := hx.cellS c0
    have HLU := hid hlu
    clear hu hx hlu
    have HNJ := hid hnj
    by_cases hlt : n < now.length
    · have hnb : n ≤ 512 := by omega
      clear hnj
      go_wp2_with fail
      go_loopw [5, 6] (fun u5 u6 wr => ∃ m : Nat, u6 = .int .i64 (7 - (m : Int)) ∧ m ≤ 8 ∧ u5 = .int .i64 (hornTo now j m : Nat) ∧ wr = wo) (fun _ u6 _ => (intOf u6 + 1).toNat)
      case atStart => exact ⟨0, rfl, by omega, rfl, rfl⟩
      case round =>
        obtain ⟨m, rfl, hm, rfl, rfl⟩ := hrel
        have hh := horn_lt now j m
        have h256 : hornTo now j m < 256 := by
          have : 2 ^ m ≤ 2 ^ 8 := Nat.pow_le_pow_right (by omega) (by omega)
          omega
        by_cases hm8 : m < 8
        · have hst : hornTo now j (m + 1) = 2 * hornTo now j m + if now.getD (n + (7 - m)) false = true then 1 else 0 := by rw [HNJ.out]; rfl
          have HST := hid hst
          obtain ⟨x, hx⟩ : ∃ x, x = hornTo now j m := ⟨_, rfl⟩
          rw [← hx] at h256 HST ⊢
          have q1 : (0 : Int) ≤ 7 - (m : Int) := by omega
          clear hst hh hx
          by_cases hin : n + (7 - m) < now.length
          · obtain ⟨g9, o9, c9, e9, hg9, -, z9⟩ := (H2.out.rdT.ext HX.out).atB (n + (7 - m)) hin
            simp only [Value.slice.injEq] at e9
            obtain ⟨rfl, -, rfl⟩ := e9
            have hgd : now.getD (n + (7 - m)) false = now[n + (7 - m)] := by rw [List.getD_eq_getElem?_getD, List.getElem?_eq_getElem hin]; rfl
            rw [hgd] at HST
            have hi1 : (n : Int) + (7 - (m : Int)) < (now.length : Int) := by omega
            have hi0 : (0 : Int) ≤ (n : Int) + (7 - (m : Int)) := by omega
            have hi2 : ((n : Int) + (7 - (m : Int))).toNat = n + (7 - m) := by omega
            generalize now[n + (7 - m)] = b at z9 HST
            clear hgd
            cases b
            · go_wp2_with fail
              go_roundw
              case rel => exact ⟨m + 1, (by first | omega | go_num), by omega, (by rw [HST.out]; simp)⟩
              case measure => simp [intOf]; omega
            · go_wp2_with fail
              go_roundw
              case rel => exact ⟨m + 1, (by first | omega | go_num), by omega, (by rw [HST.out]; simp)⟩
              case measure => simp [intOf]; omega
          · have hgd : now.getD (n + (7 - m)) false = false := by rw [List.getD_eq_getElem?_getD, List.getElem?_eq_none (by omega)]; rfl
            rw [hgd] at HST
            have hi1 : ¬ (n : Int) + (7 - (m : Int)) < (now.length : Int) := by omega
            clear hgd
            go_wp2_with fail
            go_roundw
            case rel => exact ⟨m + 1, (by first | omega | go_num), by omega, (by rw [HST.out]; simp)⟩
            case measure => simp [intOf]; omega
        · obtain rfl : m = 8 := by omega
          have hb8 := horn_byte now j
          obtain ⟨x, hx⟩ : ∃ x, x = hornTo now j 8 := ⟨_, rfl⟩
          rw [← hx] at h256 hb8 ⊢
          have HB8 := hid hb8
          have q1 : ¬ (0 : Int) ≤ 7 - ((8 : Nat) : Int) := by omega
          clear hh hx hb8
          have Hs1 := hid (show (x : Int) = ((UInt8.ofNat x).toNat : Int) by rw [UInt8.toNat_ofNat', Nat.mod_eq_of_lt (by omega)])
          have hb' := own_belowS HU.out ((Below.refl _ _).alloc (Nat.le_refl _) (.cells #[.int .u8 x] 5))
          have hHX := HX.out.size
          have hLU := HLU.out
          have HE := hid (show (mapRest now).take (j + 1) = (mapRest now).take j ++ [UInt8.ofNat x] from by
            have hjl : j < (mapRest now).length := by rw [mapRest_len]; have := HNJ.out; omega
            rw [List.take_succ_eq_append_getElem hjl]
            congr 2
            have e : (mapRest now)[j] = UInt8.ofNat (byteTo now j 8) := by simp [mapRest]
            rw [e, HB8.out])
          go_wp2_with (at_builtin; go_must (refine wl_appB rfl _ _ _ rfl w.heap.size (.slice au ((putU now.length).length + j) cu) (putU now.length ++ (mapRest now).take j) rfl (appB_own hb') _ [UInt8.ofNat x] rfl (src_one wr _ _ Hs1.out) ?_ ?_ ?_; (simp only [List.length_singleton]; omega); (simp only [heap_alloc_sz]; omega); intro v' w' k1 k2 k3 k4 k5 k6))
          go_roundw
          case rel =>
            refine ⟨j + 1, n + 8, by have := HNJ.out; omega, by go_num, by have := HNJ.out; omega, ?_, Ext.step (HX.out.alloc _) k5 (Nat.le_refl _)⟩
            have h1 := k2 (by simp)
            rw [HE.out, ← List.append_assoc]
            exact h1
          case measure => simp [intOf]; omega
    · have hje : j = (now.length + 7) / 8 := by omega
      have HJE := hid hje
      clear hje hnj
      go_wp2_with fail
      go_ret
      refine ⟨_, rfl, ?_, HX.out⟩
      have h1 := HU.out
      unfold mapB
      rw [List.take_of_length_le (by rw [mapRest_len, HJE.out]; omega)] at h1
      exact h1
end Go.Proofs.Ytbpcgfplokkfpaa
