/- cartularylaw03.SuperAlone, walked. -/
import Derived.Test.YtgbiffpnfpdcoaaBdPk
import Derived.BigQuiet
import Derived.Deep.QuietTactic
namespace Go.Proofs.Ytgbiffpnfpdcoaa
open Go.RowKit Go.Maps
set_option linter.unusedVariables false
set_option linter.unusedSimpArgs false

/-- the bytes of a string, as a new row -/
theorem strBytes (w : World) (s : ByteArray) (hs : s.size ≤ 9223372036854775807) : ∃ cap w', (convert 9 22 (.string s)).run Try.prog w = .ok (.slice (some ⟨w.heap.size, 0, none⟩) s.size cap) w' ∧ RdB w' (.slice (some ⟨w.heap.size, 0, none⟩) s.size cap) s.data.toList ∧ Ext w w' := by
  have h1 := Go.run_bytes_of_string (P := Try.prog) w 9 22 5 s Try.underlying9 Try.underlying22 Try.underlying5
  refine ⟨_, _, h1, ?_, ((Ext.refl w).drew).alloc _⟩
  have hz : s.data.toList.length = s.size := by rw [Lib.size_eq]
  refine ⟨_, _, by rw [hz], ?_, grownCap_le_maxLen _ _ _ _ (by unfold maxLen; omega), by rw [bvs_length, Nat.mul_one], fun _ => ⟨w.heap.size, 0, rfl, by simp, fun j hj => ?_⟩⟩
  · rw [hz]; exact grownCap_ge _ _ _ _
  · have hj' : j < s.data.size := by rw [Nat.mul_one, hz] at hj; exact hj
    have hr : (w.drew.alloc (.cells (bytesRow s (grownCap w s.size 0 5)) 5 ((bytesRow s (grownCap w s.size 0 5)).size, (bytesRow s (grownCap w s.size 0 5)).size + 1))).heap[w.heap.size]? = some _ := heap_alloc_new w.drew (.cells (bytesRow s (grownCap w s.size 0 5)) 5 ((bytesRow s (grownCap w s.size 0 5)).size, (bytesRow s (grownCap w s.size 0 5)).size + 1))
    rw [Nat.zero_add, cell_of_row _ _ _ _ _ _ hr, bytesRow_at s _ j hj', bvs_get _ j (by rw [hz]; exact hj')]
    simp

theorem cat_tail (f : UInt8) (l : List UInt8) (n : Nat) (hn : n = l.length) : (⟨#[f]⟩ : ByteArray) ++ (⟨l.toArray⟩ : ByteArray).extract 1 n = ⟨(f :: l.drop 1).toArray⟩ := by
  subst hn
  apply ByteArray.ext
  simp [ByteArray.data_extract]
  exact List.take_of_length_le (by rw [List.length_tail]; exact Nat.le_refl _)
theorem cat_zb (f : UInt8) : (⟨#[f]⟩ : ByteArray) ++ (⟨zb.toArray⟩ : ByteArray).extract 1 512 = ⟨(f :: List.replicate 511 0).toArray⟩ := by
  rw [cat_tail f zb 512 zb_len.symm]
  unfold zb
  rw [List.drop_replicate]
theorem infoStr : (Try.prog.info? 9).map (fun i => (i.zero, i.size, i.bytes)) = some (some (.string ⟨#[]⟩), 1, 16) := by kernel_rfl
/-- what lies in a block at first -/
def aloneB (f : UInt8) (n : Nat) : List UInt8 := if n < 10 ∨ 11 < n then f :: List.replicate 511 0 else zb
theorem aloneB_len (f : UInt8) (n : Nat) : (aloneB f n).length = 512 := by
  unfold aloneB
  split
  · rw [List.length_cons, List.length_replicate]
  · exact zb_len
def alones (f : UInt8) (n : Nat) : List ByteArray := (List.range n).map fun j => ⟨(aloneB f j).toArray⟩
theorem alones_succ (f : UInt8) (n : Nat) : alones f (n + 1) = alones f n ++ [⟨(aloneB f n).toArray⟩] := by
  unfold alones; rw [List.range_succ, List.map_append]; rfl
theorem alones_get (f : UInt8) (n j : Nat) (h : j < n) : (alones f n)[j]? = some ⟨(aloneB f j).toArray⟩ := by
  unfold alones; rw [List.getElem?_map, List.getElem?_range h]; rfl
theorem alones_len (f : UInt8) (n : Nat) : (alones f n).length = n := by unfold alones; rw [List.length_map, List.length_range]

section
variable {w W : World} {g : Nat} {ρ : Nat → Option DRol} {N : Nat} {d : Dv}
theorem MFormatK (hm : Mine w W g ρ N d) (hN : N ≤ 999999000) (hc : Calm d) (hl : d.safe.length = 64) (n : Int) (hn : 0 ≤ n ∧ n ≤ 62) (v : Value) (data : List UInt8) (hv : RdB W v data ∧ (0 < data.length → ∀ k, v.ownBlock = some k → ρ k = none)) (hd : data.length ≤ 400) :
    Calls Try.prog 23 #[.pointer (some ⟨g, 0, none⟩), .int .i64 n, v] W fun e W' => e = .returned (.int .i64 0) ∧ ∃ ρ' d', Mine w W' g ρ' (N + 6) d' ∧ Qt d' ∧ Rec d' n 0 data ∧ (∀ j : Int, 0 ≤ j → j < 64 → j ≠ n → j ≠ n + 1 → curF d' j = curF d j) ∧ Keep (fun k => ρ k = none) W W' ∧ (∀ k, ρ' k ≠ none → ρ k ≠ none ∨ W.heap.size ≤ k) := by
  obtain ⟨d', e1, e2, e3, e4⟩ := format_rec hc hl hn hd
  refine (Format_any W g ρ N d hm.dv (by omega) n (by omega) v data hv.1 hv.2).mono ?_
  rintro e W' ⟨rfl, ρ', h1, h2, h3⟩
  have h4 := hm.wr h1 h2 h3
  rw [e1] at h4 ⊢
  exact ⟨rfl, ρ', d', h4, e2, e3, e4, h2, h3⟩
theorem MStoreK (hm : Mine w W g ρ N d) (hN : N ≤ 999999000) (hc : Calm d) (hl : d.safe.length = 64) (n : Int) (hn : 0 ≤ n ∧ n ≤ 62) (c : Nat) (hcc : c ≤ 999999999) (x : List UInt8) (hr : Rec d n c x) (v : Value) (data : List UInt8) (hv : RdB W v data ∧ (0 < data.length → ∀ k, v.ownBlock = some k → ρ k = none)) (hd : data.length ≤ 400) :
    Calls Try.prog 24 #[.pointer (some ⟨g, 0, none⟩), .int .i64 n, v] W fun e W' => e = .returned (.int .i64 0) ∧ ∃ ρ' d', Mine w W' g ρ' (N + 5) d' ∧ Qt d' ∧ Rec d' n (c + 1) data ∧ (∀ j : Int, 0 ≤ j → j < 64 → j ≠ n → j ≠ n + 1 → curF d' j = curF d j) ∧ Keep (fun k => ρ k = none) W W' ∧ (∀ k, ρ' k ≠ none → ρ k ≠ none ∨ W.heap.size ≤ k) := by
  obtain ⟨e0, d', e1, e2, e3, e4⟩ := store_rec hc hl hn hcc hr hd
  refine (Store_any W g ρ N d hm.dv (by omega) n (by omega) v data hv.1 hv.2 (fun _ => e0)).mono ?_
  rintro e W' ⟨rfl, ρ', h1, h2, h3⟩
  have h4 := hm.wr h1 h2 h3
  rw [e1] at h4 ⊢
  exact ⟨rfl, ρ', d', h4, e2, e3, e4, h2, h3⟩
/-- a row that is no part of the device -/
structure Beside {α : Type} (r : Rdr α) (t : TypeId) (W : World) (ρ : Nat → Option DRol) (base : Nat) (v : Value) (xs : List α) : Prop where
  row : OwnS r t W base (fun _ => False) v xs
  out : ∀ k, v.ownBlock = some k → ρ k = none
theorem Beside.step {α : Type} {r : Rdr α} {t : TypeId} {base : Nat} {v : Value} {xs : List α} {W' : World} {ρ' : Nat → Option DRol} (h : Beside r t W ρ base v xs) (hk : Keep (fun k => ρ k = none) W W') (hr : ∀ k, ρ' k ≠ none → ρ k ≠ none ∨ W.heap.size ≤ k) : Beside r t W' ρ' base v xs := by
  refine ⟨h.row.kept (hk.mono fun k hk _ => ?_), fun k hk => ?_⟩
  · rcases hk with hk | hk
    · exact hk.elim
    · exact h.out k hk
  · by_cases e : ρ' k = none
    · exact e
    · rcases hr k e with h1 | h1
      · exact absurd (h.out k hk) h1
      · have := (h.row.lt k hk).2; omega
theorem Beside.head {α : Type} {r : Rdr α} {t : TypeId} {base : Nat} {v : Value} {xs : List α} {W' : World} (h : Beside r t W ρ base v xs) (hm : Mine w W g ρ N d) (hk : Keep (fun k => k ≠ g) W W') : Beside r t W' ρ base v xs :=
  h.step (hk.mono fun k hk _ e => by obtain ⟨⟨_, _, _, h⟩, _, _⟩ := hm; rw [e, h.rg] at hk; cases hk) (fun k h => .inl h)
end

set_option maxRecDepth 100000 in
set_option maxHeartbeats 4000000 in
theorem superAlone_any (w : World) (fill : Int) (hf : -9223372036854775808 ≤ fill ∧ fill ≤ 9223372036854775807) (v1 : Value) (a : List UInt8) (ha : RdB w v1 a) (v2 : Value) (b : List UInt8) (hb : RdB w v2 b) :
    Calls Try.prog 11 #[.int .i64 fill, v1, v2] w fun e w' => e = .returned (.bool true) ∧ Ext w w' := by
  obtain ⟨va, vc, rfl⟩ := ha.slice'
  obtain ⟨vb, vd, rfl⟩ := hb.slice'
  have HA := hid ha
  have HB := hid hb
  have HF := hid hf
  clear ha hb hf
  go_enter Try.func11, Try.ntmps11
  go_wp2_with fail
  refine (sawake_any w).mono ?_
  rintro e w0 ⟨rfl, hx0⟩
  have HX0 := hid hx0
  have HA := hid (HA.out.ext hx0)
  have HB := hid (HB.out.ext hx0)
  clear hx0
  go_wp2_with fail
  refine (New64 w0).mono ?_
  rintro e w1 ⟨g, rfl, ρ, hm⟩
  have HM := hid hm
  clear hm
  by_cases h1 : 400 < a.length
  · have h1' : (400 : Int) < (a.length : Int) := by omega
    clear h1
    go_wp2_with fail
    go_ret
    exact ⟨rfl, HX0.out.trans HM.out.ex⟩
  by_cases h2 : 400 < b.length
  · have h1' : ¬ (400 : Int) < (a.length : Int) := by omega
    have h2' : (400 : Int) < (b.length : Int) := by omega
    clear h1 h2
    go_wp2_with fail
    go_ret
    exact ⟨rfl, HX0.out.trans HM.out.ex⟩
  have h1' : ¬ (400 : Int) < (a.length : Int) := by omega
  have h2' : ¬ (400 : Int) < (b.length : Int) := by omega
  have Q0 := hid Qt.new
  obtain ⟨p, hp⟩ : ∃ p, pickF fill 256 = p := ⟨_, rfl⟩
  have hp2 : p < 256 := by rw [← hp]; exact pickF_lt fill 256 (by omega)
  have hub : ((UInt8.ofNat p).toNat : Int) = p := by rw [UInt8.toNat_ofNat']; omega
  have HPI := hid hp
  clear hp
  obtain ⟨f, hf⟩ : ∃ f, f = UInt8.ofNat p := ⟨_, rfl⟩
  rw [← hf] at hub
  have HUB := hid hub
  clear hf hub
  go_wp2_with fail
  go_loopw [10, 11] (fun u10 u11 wr => ∃ (i : Nat) (ρ : Nat → Option DRol) (d : Dv), u11 = .int .i64 i ∧ i ≤ 64 ∧ Mine w0 wr g ρ (2 * i) d ∧ Calm d ∧ d.safe.length = 64 ∧ (∀ j : Nat, j < i → curF d j = aloneB f j) ∧ OwnS rS 9 wr w0.heap.size (fun _ => False) u10 (alones f i) ∧ ∀ k, u10.ownBlock = some k → ρ k = none) (fun _ u11 _ => 64 - (intOf u11).toNat)
  case atStart => exact ⟨0, ρ, dv0 64, rfl, Nat.zero_le _, HM.out, Q0.out.calm, Q0.out.len, fun j h => absurd h (Nat.not_lt_zero _), OwnS.nil _ _ _ _ _, fun k h => by simp [Value.ownBlock] at h⟩
  case round =>
    clear HM Q0
    obtain ⟨wo, rfl⟩ : ∃ wo : World, wo = wr := ⟨_, rfl⟩
    obtain ⟨i, ρ, d, rfl, hi, hm, hc, hl, hcu, how, hob⟩ := hrel
    obtain ⟨ra, rc, rfl⟩ := how.slice
    have HM := hid hm
    have HC := hid hc
    have HL := hid hl
    have HCU := hid hcu
    have HOW := hid how
    have HOB := hid hob
    clear hm hc hl hcu how hob
    by_cases hlt : i < 64
    · have i1 : (i : Int) < 64 := by omega
      go_wp2_with fail
      refine (Noughts_any wo).mono ?_
      rintro e w2 ⟨rfl, hx2⟩
      have hz : (⟨zb.toArray⟩ : ByteArray).size = 512 := zbBA
      -- the block, and what is behind it
      have hgoal : ∀ (W : World), Ext wo W → ∃ cap W2, (convert 9 22 (.string ⟨(aloneB f i).toArray⟩)).run Try.prog W = .ok (.slice (some ⟨W.heap.size, 0, none⟩) 512 cap) W2 ∧ RdB W2 (.slice (some ⟨W.heap.size, 0, none⟩) 512 cap) (aloneB f i) ∧ Ext W W2 := fun W hW => by
        have hsz : (⟨(aloneB f i).toArray⟩ : ByteArray).size = 512 := by show (aloneB f i).toArray.size = 512; rw [List.size_toArray]; exact aloneB_len f i
        obtain ⟨cap, W2, e1, e2, e3⟩ := strBytes W ⟨(aloneB f i).toArray⟩ (by rw [hsz]; omega)
        rw [hsz] at e1 e2
        exact ⟨cap, W2, e1, by simpa using e2, e3⟩
      have hend : ∀ (W2 : World) (cap : Nat) (v : Value), Ext wo W2 → RdB W2 v (aloneB f i) → (∀ k, v.ownBlock = some k → wo.heap.size ≤ k) →
          Calls Try.prog 27 #[.pointer (some ⟨g, 0, none⟩), .int .i64 i, v] W2 fun e W3 => e = .returned (.int .i64 0) ∧ ∃ ρ3 d3, Mine w0 W3 g ρ3 (2 * (i + 1)) d3 ∧ Calm d3 ∧ d3.safe.length = 64 ∧ (∀ j : Nat, j < i + 1 → curF d3 j = aloneB f j) ∧ OwnS rS 9 W3 w0.heap.size (fun _ => False) (.slice ra (alones f i).length rc) (alones f i) ∧ (∀ k, (Value.slice ra (alones f i).length rc).ownBlock = some k → ρ3 k = none) := fun W2 cap v hx hr hb => by
        have hm2 := HM.out.ext hx
        refine (MWriteC hm2 (by omega) HC.out i (by rw [HL.out]; omega) v _ hr (fun k hk => HM.out.late hx (hb k hk)) (aloneB_len f i)).mono ?_
        rintro e W3 ⟨rfl, ρ3, d3, hm3, c3, wr3, hk3, hr3⟩
        refine ⟨rfl, ρ3, d3, hm3.mono (by omega), c3, wr3.len.trans HL.out, fun j hj => ?_, (HOW.out.ext hx).kept (hk3.mono fun k hk _ => ?_), fun k hk => ?_⟩
        · rw [wr3.cur]
          by_cases e : (j : Int) = i
          · have : j = i := by omega
            subst this; rw [if_pos rfl]
          · rw [if_neg e]; exact HCU.out j (by omega)
        · rcases hk with hk | hk
          · exact hk.elim
          · exact HOB.out k hk
        · by_cases e : ρ3 k = none
          · exact e
          · rcases hr3 k e with h | h
            · exact absurd (HOB.out k hk) h
            · have := (HOW.out.lt k hk).2
              have := hx.size; omega
      have HSZ := hid (show (⟨(aloneB f i).toArray⟩ : ByteArray).size = 512 by show (aloneB f i).toArray.size = 512; rw [List.size_toArray]; exact aloneB_len f i)
      have HGOAL := hid hgoal
      have HEND := hid hend
      have HX2 := hid hx2
      clear hgoal hend hx2
      by_cases hin : i < 10 ∨ 11 < i
      · have hal : aloneB f i = f :: List.replicate 511 0 := by unfold aloneB; rw [if_pos hin]
        have HAL := hid hal
        clear hal
        have hin' : (i : Int) < 10 ∨ (¬ (i : Int) < 10 ∧ (11 : Int) < i) := by omega
        have hwr : IntKind.u8.wrap (p : Int) = p := by
          unfold IntKind.wrap
          simp [IntKind.min, IntKind.max, IntKind.bits, IntKind.signed]
          omega
        clear hin
        have hst := u8one_d w2 f (p : Int) HUB.out
        have hcat : (⟨#[f]⟩ : ByteArray) ++ (⟨zb.toArray⟩ : ByteArray).extract 1 512 = ⟨(aloneB f i).toArray⟩ := by
          rw [HAL.out]
          exact cat_zb f
        have HCAT := hid hcat
        clear hcat
        rcases hin' with i2 | ⟨i2, i3⟩
        all_goals
          go_wp2_with fail
          refine wp_region_T (fun _ => True) [] (by kernel_rfl) trivial (fun hS => ?_)
          (refine wpAnyT_take (i := 0) (v := ?_) rfl (by kernel_rfl) (by kernel_rfl) (by kernel_rfl) (by kernel_rfl) (fun _ _ _ h => h) (Or.inl ⟨by rfl, ?_⟩) (by assumption) ?_; rotate_left; ((intro wS hSw; (try dsimp only at hSw); (try simp only [List.getElem_toArray, List.getElem_cons_zero, List.getElem_cons_succ]); go_simp); (try with_reducible rfl)); (try simp only [Act.put, List.getElem_toArray, List.getElem_cons_zero, List.getElem_cons_succ, List.setIfInBounds_toArray, List.set_cons_zero, List.set_cons_succ]))
          (refine wpAnyT_take (i := 5) (v := ?_) rfl (by kernel_rfl) (by kernel_rfl) (by kernel_rfl) (by kernel_rfl) (fun _ _ _ h => h) (Or.inl ⟨by rfl, ?_⟩) (by assumption) ?_; rotate_left; ((intro wS hSw; (try dsimp only at hSw); (try simp only [List.getElem_toArray, List.getElem_cons_zero, List.getElem_cons_succ]); go_simp); (try with_reducible rfl)); (try simp only [Act.put, List.getElem_toArray, List.getElem_cons_zero, List.getElem_cons_succ, List.setIfInBounds_toArray, List.set_cons_zero, List.set_cons_succ]))
          (refine wpAnyT_take (i := 6) (v := ?_) rfl (by kernel_rfl) (by kernel_rfl) (by kernel_rfl) (by kernel_rfl) (fun _ _ _ h => h) (Or.inl ⟨by rfl, ?_⟩) (by assumption) ?_; rotate_left; ((intro wS hSw; (try dsimp only at hSw); (try simp only [List.getElem_toArray, List.getElem_cons_zero, List.getElem_cons_succ]); go_simp); (try with_reducible rfl)); (try simp only [Act.put, List.getElem_toArray, List.getElem_cons_zero, List.getElem_cons_succ, List.setIfInBounds_toArray, List.set_cons_zero, List.set_cons_succ]))
          refine wpAnyT_all (rs := [1]) (by kernel_rfl) (by decide) (AllT.consS rfl (fun K hK => ?_) AllT.nil)
          go_simp
          go_at_call 26
          refine (Pick_any _ fill 256 HF.out (by omega) (by omega)).mono ?_
          rintro e w' ⟨rfl, rfl⟩
          rw [show pickF fill (256 : Int).toNat = p from HPI.out]
          (refine hK.out _ _ (trivial) (fun hS => ?_); clear hK K)
          refine wpAnyT_all (rs := [2]) (by kernel_rfl) (by decide) (AllT.consS rfl (fun K hK => ?_) AllT.nil)
          go_simp
          (refine hK.out _ _ (trivial) (fun hS => ?_); clear hK K)
          refine wpAnyT_all (rs := [3]) (by kernel_rfl) (by decide) (AllT.consS rfl (fun K hK => ?_) AllT.nil)
          go_simp
          (refine hK.out _ _ (trivial) (fun hS => ?_); clear hK K)
          refine wpAnyT_all (rs := [4]) (by kernel_rfl) (by decide) (AllT.consS rfl (fun K hK => ?_) AllT.nil)
          go_simp
          (refine hK.out _ _ (trivial) (fun hS => ?_); clear hK K)
          refine wpAnyT_all (rs := [7]) (by kernel_rfl) (by decide) (AllT.consS rfl (fun K hK => ?_) AllT.nil)
          go_simp
          rw [HCAT.out]
          (refine hK.out _ _ (trivial) (fun hS => ?_); clear hK K)
          refine wpAnyT_all (rs := [8]) (by kernel_rfl) (by decide) (AllT.consS rfl (fun K hK => ?_) AllT.nil)
          go_simp
          (refine hK.out _ _ (trivial) (fun hS => ?_); clear hK K)
          refine wpAnyT_done (by kernel_rfl) (NoPanic.normal ?_) _
          obtain ⟨wc, hwc⟩ : ∃ wc, wc = (w2.alloc (.cells #[.int .u8 (p : Int)] 5)).drew := ⟨_, rfl⟩
          rw [← hwc]
          have hxc : Ext wo wc := HX2.out.trans (by rw [hwc]; (· repeat (first | (with_reducible assumption) | exact Ext.refl _ | refine Ext.alloc ?_ _ | refine Ext.drew ?_ | refine Ext.drewN ?_ _ | (apply Ext.snart; (with_reducible assumption)))))
          clear hwc hst hS
          obtain ⟨cap, wd, hcv, hrd, hxd⟩ := HGOAL.out wc hxc
          have HRD := hid hrd
          have HXD := hid (hxc.trans hxd)
          have HXC := hid hxc
          clear hrd hxd hxc
          go_wp2_with fail
          refine (HEND.out wd cap _ HXD.out HRD.out (fun k hk => by simp only [Value.ownBlock, Option.some.injEq] at hk; have := HXC.out.size; omega)).mono ?_
          rintro e wE ⟨rfl, ρ3, d3, hm3, c3, l3, v3, o3, b3⟩
          have HM3 := hid hm3
          have C3 := hid c3
          have L3 := hid l3
          have V3 := hid v3
          have O3 := hid o3
          have B3 := hid b3
          clear hm3 c3 l3 v3 o3 b3 hcv
          go_wp2_with (at_builtin; go_must (refine wl_appS rS rfl _ _ _ _ _ _ 16 rfl Try.underlying42 infoStr rfl w0.heap.size (fun _ => False) _ (alones f i) rfl (O3.out.ext (by (· repeat (first | (with_reducible assumption) | exact Ext.refl _ | refine Ext.alloc ?_ _ | refine Ext.drew ?_ | refine Ext.drewN ?_ _ | (apply Ext.snart; (with_reducible assumption)))))) _ [([.string ⟨(aloneB f i).toArray⟩], ⟨(aloneB f i).toArray⟩)] rfl (src_row Try.underlying42 (heap_alloc_new _ _) (by simp [cellsOf, Value.oneCell']) (by simp [cellsOf, rS])) (fun p hp => by (obtain rfl := List.mem_singleton.1 hp; exact ⟨rfl, by dsimp only; rw [HSZ.out]; omega⟩)) (fun _ h => h.elim) (by rw [alones_len]; simp; omega) (by rw [alones_len]; simp; omega) (by simp; have := HM3.out.ex.size; omega) ?_; intro v9 w9 q1 q2 q3; rw [show (alones f i) ++ List.map (·.2) [([Value.string ⟨(aloneB f i).toArray⟩], (⟨(aloneB f i).toArray⟩ : ByteArray))] = alones f (i + 1) from (alones_succ f i).symm] at q1))
          have hxw : Ext wE (wE.alloc (.cells #[.string ⟨(aloneB f i).toArray⟩] 9)) := by (· repeat (first | (with_reducible assumption) | exact Ext.refl _ | refine Ext.alloc ?_ _ | refine Ext.drew ?_ | refine Ext.drewN ?_ _ | (apply Ext.snart; (with_reducible assumption))))
          have hro : ∀ k, (Value.slice ra (alones f i).length rc).ownBlock = some k → w0.heap.size ≤ k := fun k hk => (O3.out.lt k hk).1
          have hk9 : Keep (fun k => ¬ (Value.slice ra (alones f i).length rc).ownBlock = some k) wE w9 := (hxw.keep _).trans ((keep_grown q2).mono fun k hk _ e => hk e.symm)
          have hm9 : Mine w0 w9 g ρ3 (2 * (i + 1)) d3 := ⟨HM3.out.dv.keep (hk9.mono fun k hk _ e => hk (B3.out k e)), HM3.out.nw, Keep.ext (((HM3.out.ex.keep (fun k => k < w0.heap.size)).trans (hk9.mono fun k hk _ e => by have := hro k e; omega)).mono fun k _ hl => hl)⟩
          have hb9 : ∀ k, v9.ownBlock = some k → ρ3 k = none := fun k hk => by
            rcases q3 k hk with h | h
            · exact B3.out k h
            · exact HM3.out.late hxw (Nat.le_trans hxw.size h)
          have HM9 := hid hm9
          have HB9 := hid hb9
          have Q1 := hid q1
          clear hm9 hb9 q1 q2 q3 hro hk9 hxw
          go_wp2_with fail
          exact ⟨⟨i + 1, ρ3, d3, rfl, by omega, HM9.out, C3.out, L3.out, V3.out, Q1.out, HB9.out⟩, by simp only [intOf]; omega⟩
      · have hal : aloneB f i = zb := by unfold aloneB; rw [if_neg hin]
        have HAL := hid hal
        clear hal
        have i2 : ¬ (i : Int) < 10 := by omega
        have i3 : ¬ (11 : Int) < i := by omega
        clear hin
        obtain ⟨cap, wd, hcv, hrd, hxd⟩ := HGOAL.out w2 HX2.out
        have HRD := hid hrd
        have HXD := hid (HX2.out.trans hxd)
        rw [HAL.out] at hcv
        clear hrd hxd
        go_wp2_with fail
        refine (HEND.out wd cap _ HXD.out HRD.out (fun k hk => by simp only [Value.ownBlock, Option.some.injEq] at hk; have := HX2.out.size; omega)).mono ?_
        rintro e wE ⟨rfl, ρ3, d3, hm3, c3, l3, v3, o3, b3⟩
        have HM3 := hid hm3
        have C3 := hid c3
        have L3 := hid l3
        have V3 := hid v3
        have O3 := hid o3
        have B3 := hid b3
        clear hm3 c3 l3 v3 o3 b3 hcv
        rw [← HAL.out]
        go_wp2_with (at_builtin; go_must (refine wl_appS rS rfl _ _ _ _ _ _ 16 rfl Try.underlying42 infoStr rfl w0.heap.size (fun _ => False) _ (alones f i) rfl (O3.out.ext (by (· repeat (first | (with_reducible assumption) | exact Ext.refl _ | refine Ext.alloc ?_ _ | refine Ext.drew ?_ | refine Ext.drewN ?_ _ | (apply Ext.snart; (with_reducible assumption)))))) _ [([.string ⟨(aloneB f i).toArray⟩], ⟨(aloneB f i).toArray⟩)] rfl (src_row Try.underlying42 (heap_alloc_new _ _) (by simp [cellsOf, Value.oneCell']) (by simp [cellsOf, rS])) (fun p hp => by (obtain rfl := List.mem_singleton.1 hp; exact ⟨rfl, by dsimp only; rw [HSZ.out]; omega⟩)) (fun _ h => h.elim) (by rw [alones_len]; simp; omega) (by rw [alones_len]; simp; omega) (by simp; have := HM3.out.ex.size; omega) ?_; intro v9 w9 q1 q2 q3; rw [show (alones f i) ++ List.map (·.2) [([Value.string ⟨(aloneB f i).toArray⟩], (⟨(aloneB f i).toArray⟩ : ByteArray))] = alones f (i + 1) from (alones_succ f i).symm] at q1))
        have hxw : Ext wE (wE.alloc (.cells #[.string ⟨(aloneB f i).toArray⟩] 9)) := by (· repeat (first | (with_reducible assumption) | exact Ext.refl _ | refine Ext.alloc ?_ _ | refine Ext.drew ?_ | refine Ext.drewN ?_ _ | (apply Ext.snart; (with_reducible assumption))))
        have hro : ∀ k, (Value.slice ra (alones f i).length rc).ownBlock = some k → w0.heap.size ≤ k := fun k hk => (O3.out.lt k hk).1
        have hk9 : Keep (fun k => ¬ (Value.slice ra (alones f i).length rc).ownBlock = some k) wE w9 := (hxw.keep _).trans ((keep_grown q2).mono fun k hk _ e => hk e.symm)
        have hm9 : Mine w0 w9 g ρ3 (2 * (i + 1)) d3 := ⟨HM3.out.dv.keep (hk9.mono fun k hk _ e => hk (B3.out k e)), HM3.out.nw, Keep.ext (((HM3.out.ex.keep (fun k => k < w0.heap.size)).trans (hk9.mono fun k hk _ e => by have := hro k e; omega)).mono fun k _ hl => hl)⟩
        have hb9 : ∀ k, v9.ownBlock = some k → ρ3 k = none := fun k hk => by
          rcases q3 k hk with h | h
          · exact B3.out k h
          · exact HM3.out.late hxw (Nat.le_trans hxw.size h)
        have HM9 := hid hm9
        have HB9 := hid hb9
        have Q1 := hid q1
        clear hm9 hb9 q1 q2 q3 hro hk9 hxw
        go_wp2_with fail
        exact ⟨⟨i + 1, ρ3, d3, rfl, by omega, HM9.out, C3.out, L3.out, V3.out, Q1.out, HB9.out⟩, by simp only [intOf]; omega⟩
    · have hie : i = 64 := by omega
      subst hie
      have i1 : ¬ ((64 : Nat) : Int) < 64 := by omega
      have BS := hid (show Beside rS 9 wo ρ w0.heap.size (.slice ra (alones f 64).length rc) (alones f 64) from ⟨HOW.out, HOB.out⟩)
      clear HOW HOB hlt
      go_wp2_with fail
      refine (MFormatK HM.out (by omega) HC.out HL.out 10 (by omega) _ a (HM.out.arg HA.out) (by omega)).mono ?_
      rintro e w2 ⟨rfl, ρ2, d2, hm2, q2, r2, v2, k2, s2⟩
      have HM2 := hid hm2
      have Q2 := hid q2
      have R2 := hid r2
      have V2 := hid (fun (j : Nat) (hj : j < 64) (h : j < 10 ∨ 11 < j) => (v2 j (by omega) (by omega) (by omega) (by omega)).trans (HCU.out j hj))
      have BS2 := hid (BS.out.step k2 s2)
      clear hm2 q2 r2 v2 k2 s2 BS HM HC HL HCU
      go_wp2_with fail
      refine (MStoreK HM2.out (by omega) Q2.out.calm Q2.out.len 10 (by omega) 0 (by omega) a R2.out _ b (HM2.out.arg HB.out) (by omega)).mono ?_
      rintro e w3 ⟨rfl, ρ3, d3, hm3, q3, r3, v3, k3, s3⟩
      have HM3 := hid hm3
      have Q3 := hid q3
      have R3 := hid r3
      have V3 := hid (fun (j : Nat) (hj : j < 64) (h : j < 10 ∨ 11 < j) => (v3 j (by omega) (by omega) (by omega) (by omega)).trans (V2.out j hj h))
      have BS3 := hid (BS2.out.step k3 s3)
      clear hm3 q3 r3 v3 k3 s3 BS2 HM2 Q2 R2 V2
      go_wp2_with fail
      refine (MStoreK HM3.out (by omega) Q3.out.calm Q3.out.len 10 (by omega) (0 + 1) (by omega) b R3.out _ a (HM3.out.arg HA.out) (by omega)).mono ?_
      rintro e w4 ⟨rfl, ρ4, d4, hm4, q4, r4, v4, k4, s4⟩
      have HM4 := hid hm4
      have Q4 := hid q4
      have R4 := hid r4
      have V4 := hid (fun (j : Nat) (hj : j < 64) (h : j < 10 ∨ 11 < j) => (v4 j (by omega) (by omega) (by omega) (by omega)).trans (V3.out j hj h))
      have BS4 := hid (BS3.out.step k4 s4)
      clear hm4 q4 r4 v4 k4 s4 BS3 HM3 Q3 R3 V3
      go_wp2_with fail
      refine (MCrash HM4.out (by omega) (fun _ => False) (.slice none 0 0) [] (RdS.nil _ _ _) (fun k hk _ => hk.elim)).mono ?_
      rintro e w5 ⟨rfl, hm5, k5⟩
      obtain ⟨q5, v5⟩ := crash_qt Q4.out []
      have r5 := R4.out.cur (v5 10 (by omega) (by omega)) (v5 11 (by omega) (by omega))
      generalize crashF d4 [] = d5 at hm5 q5 r5 v5
      have HM5 := hid hm5
      have Q5 := hid q5
      have R5 := hid r5
      have V5 := hid (fun (j : Nat) (hj : j < 64) (h : j < 10 ∨ 11 < j) => (v5 j (by omega) (by omega)).trans (V4.out j hj h))
      have BS5 := hid (BS4.out.step k5 (fun k h => .inl h))
      clear hm5 q5 r5 v5 k5 BS4 HM4 Q4 R4 V4
      go_wp2_with fail
      refine (MLoad HM5.out (by omega) Q5.out.calm Q5.out.len 10 (by omega) (0 + 1 + 1) a R5.out).mono ?_
      rintro e w6 ⟨x6, rfl, hx6, hb6, k6, d6, hm6, c6, l6, v6, -⟩
      obtain ⟨xa, xc, rfl⟩ := hx6.slice'
      have HM6 := hid hm6
      have C6 := hid c6
      have L6 := hid l6
      have V6 := hid (fun (j : Nat) (hj : j < 64) (h : j < 10 ∨ 11 < j) => (v6 j).trans (V5.out j hj h))
      have BS6 := hid (BS5.out.head HM5.out k6)
      have HX6 := hid hx6
      have HB6 := hid (fun k (hk : (Value.slice xa a.length xc).ownBlock = some k) => (show k ≠ g from fun e => by have := hb6 k hk; have := HM5.out.glt; omega))
      clear hm6 c6 l6 v6 k6 hx6 hb6 BS5 HM5 Q5 R5 V5
      go_wp2_with fail
      go_loopw [19] (fun u19 wr => ∃ (k : Nat) (d : Dv), u19 = .int .i64 k ∧ k ≤ 64 ∧ Mine w0 wr g ρ4 (300 + k) d ∧ Calm d ∧ d.safe.length = 64 ∧ (∀ (j : Nat), j < 64 → (j < 10 ∨ 11 < j) → curF d j = aloneB f j) ∧ Beside rS 9 wr ρ4 w0.heap.size (.slice ra (alones f 64).length rc) (alones f 64) ∧ RdB wr (.slice xa a.length xc) a) (fun u19 _ => 64 - (intOf u19).toNat)
      case atStart => exact ⟨0, d6, rfl, Nat.zero_le _, HM6.out.mono (by omega), C6.out, L6.out, V6.out, BS6.out, HX6.out⟩
      case round =>
        clear HM6 C6 L6 V6 BS6 HX6
        obtain ⟨wq, rfl⟩ : ∃ wq : World, wq = wr := ⟨_, rfl⟩
        obtain ⟨k, d, rfl, hk, hm, hc, hl, hv, hbs, hx⟩ := hrel
        have HM := hid hm
        have HC := hid hc
        have HL := hid hl
        have HV := hid hv
        have HBS := hid hbs
        have HX := hid hx
        clear hm hc hl hv hbs hx
        by_cases hlt : k < 64
        · have j1 : (k : Int) < 64 := by omega
          go_wp2_with fail
          refine (MReadC HM.out (by omega) HC.out k (by rw [HL.out]; omega)).mono ?_
          rintro e wR ⟨kc, rfl, hkc, hrc, hcl, dR, hmR, cR, sR, kR⟩
          have hbs := HBS.out.head HM.out kR
          have hx : RdB wR (.slice xa a.length xc) a := Rd.carry0 HX.out kR.size fun _ j hj hl => kR.block j (HB6.out j hj) hl
          have HEND := hid (show ∀ W, Ext wR W → ∃ (k2 : Nat) (d2 : Dv), Value.int .i64 ((k : Int) + 1) = .int .i64 k2 ∧ k2 ≤ 64 ∧ Mine w0 W g ρ4 (300 + k2) d2 ∧ Calm d2 ∧ d2.safe.length = 64 ∧ (∀ (j : Nat), j < 64 → (j < 10 ∨ 11 < j) → curF d2 j = aloneB f j) ∧ Beside rS 9 W ρ4 w0.heap.size (.slice ra (alones f 64).length rc) (alones f 64) ∧ RdB W (.slice xa a.length xc) a from
            fun W hW => ⟨k + 1, dR, rfl, by omega, hmR.ext hW, cR, sR.len.trans HL.out, fun j hj h => (sR.cur j).trans (HV.out j hj h), hbs.step (hW.keep _) (fun k h => .inl h), hx.ext hW⟩)
          by_cases hin : k < 10 ∨ 11 < k
          · have hcu := HV.out k hlt hin
            rw [hcu] at hrc hcl
            have hsc := fun n => run_strB ((row_rdB hrc hcl).ext ((Ext.refl _).drewN n))
            obtain ⟨gw, ow, cw, e, hgw, -, hcw, -⟩ := hbs.row.rd.atS k (by rw [alones_len]; exact hlt)
            simp only [Value.slice.injEq] at e
            obtain ⟨rfl, -, rfl⟩ := e
            have hag : (alones f 64)[k]'(by rw [alones_len]; exact hlt) = ⟨(aloneB f k).toArray⟩ := by
              have := alones_get f 64 k hlt
              rw [List.getElem?_eq_getElem (by rw [alones_len]; exact hlt)] at this
              exact Option.some.inj this
            rw [hag] at hcw
            have hal : ((alones f 64).length : Int) = 64 := by rw [alones_len]; rfl
            have j2 : (k : Int) < ((alones f 64).length : Int) := by rw [hal]; exact j1
            have hcases : decide ((k : Int) < 10) = true ∨ (decide ((k : Int) < 10) = false ∧ decide ((11 : Int) < k) = true) := by
              rcases hin with h | h
              · left; simp; omega
              · right; constructor <;> simp <;> omega
            clear hbs hx hin hrc hcl hcu hkc hag hmR cR sR kR
            rcases hcases with h5 | ⟨h5, h6⟩
            all_goals
              go_wp2_with fail
              go_quiet (fail)
              go_wp2_with fail
              exact ⟨HEND.out _ ((Ext.refl _).drewN _), by simp only [intOf]; omega⟩
          · have h5 : decide ((k : Int) < 10) = false := by simp; omega
            have h6 : decide ((11 : Int) < k) = false := by simp; omega
            clear hbs hx hin hrc hcl hkc hmR cR sR kR
            go_wp2_with fail
            go_quiet (fail)
            go_wp2_with fail
            exact ⟨HEND.out _ ((Ext.refl _).drewN _), by simp only [intOf]; omega⟩
        · have hke : k = 64 := by omega
          subst hke
          have j1 : ¬ ((64 : Nat) : Int) < 64 := by omega
          have hsx := run_strB HX.out
          have hsa := run_strB (HM.out.arg HA.out).1
          go_wp2_with fail
          go_ret
          exact ⟨rfl, HX0.out.trans HM.out.ex⟩
theorem superAlone_walk (w : World) (fill : Int) (hf : -9223372036854775808 ≤ fill ∧ fill ≤ 9223372036854775807) (v1 : Value) (a : List UInt8) (ha : RdB w v1 a) (_ : a.length ≤ 140737488351232) (v2 : Value) (b : List UInt8) (hb : RdB w v2 b) (_ : b.length ≤ 140737488351232) :
    Calls Try.prog 11 #[.int .i64 fill, v1, v2] w fun e w' => e = .returned (.bool true) ∧ Below w.heap.size w w' :=
  (superAlone_any w fill hf v1 a ha v2 b hb).mono fun e w' h => ⟨h.1, h.2.below⟩
end Go.Proofs.Ytgbiffpnfpdcoaa
