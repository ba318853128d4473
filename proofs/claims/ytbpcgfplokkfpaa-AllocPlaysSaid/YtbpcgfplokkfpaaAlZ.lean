/- alloc.Read, walked. -/
import Derived.Test.YtbpcgfplokkfpaaAlM
import Derived.Test.YtbpcgfplokkfpaaEql
import Derived.Test.YtbpcgfplokkfpaaGetA
import Derived.Test.YtbpcgfplokkfpaaRegT
namespace Go.Proofs.Ytbpcgfplokkfpaa
open Go.RowKit
set_option linter.unusedVariables false
set_option linter.unusedSimpArgs false

theorem bit_ok : ∀ (x : Fin 256) (r : Fin 8), (bits BinOp.and IntKind.u8 (((x.val : Nat) : Int) / 2 ^ r.val) 1 == 1) = decide (x.val / 2 ^ r.val % 2 = 1) := by decide +kernel
theorem bit_byte (x : UInt8) (r : Nat) (hr : r < 8) : (bits BinOp.and IntKind.u8 (((x.toNat : Nat) : Int) / 2 ^ r) 1 == 1) = decide (x.toNat / 2 ^ r % 2 = 1) := bit_ok ⟨x.toNat, x.toNat_lt⟩ ⟨r, hr⟩
theorem falses_set (now : List Bool) (i : Nat) (h : i < now.length) (b : Bool) : (now.take i ++ List.replicate (now.length - i) false).set i b = now.take i ++ b :: List.replicate (now.length - (i + 1)) false := by
  rw [List.set_append_right _ _ (by simp; omega), List.length_take, Nat.min_eq_left (by omega), Nat.sub_self]
  obtain ⟨d, hd⟩ : ∃ d, now.length - i = d + 1 := ⟨now.length - i - 1, by omega⟩
  rw [hd, List.replicate_succ, List.set_cons_zero, show now.length - (i + 1) = d from by omega]
theorem bits_step (l : List UInt8) (n i : Nat) (h : i < n) : ((bitsOf l n).take i ++ List.replicate (n - i) false).set i (bitAt l i) = (bitsOf l n).take (i + 1) ++ List.replicate (n - (i + 1)) false := by
  have e := falses_set (bitsOf l n) i (by rw [bitsOf_len]; exact h) (bitAt l i)
  rw [bitsOf_len] at e
  have hg : (bitsOf l n)[i]'(by rw [bitsOf_len]; exact h) = bitAt l i := by simp [bitsOf]
  rw [e, List.take_succ_eq_append_getElem (by rw [bitsOf_len]; exact h), hg, List.append_assoc]
  rfl
theorem MapAt.mono {T T' : Nat → Prop} {w : World} {g : Nat} {now last : List Bool} (h : MapAt T w g now last) (hs : ∀ k, T k → k < w.heap.size → T' k) : MapAt T' w g now last := by
  have hg := h.lt
  obtain ⟨vn, vl, h1, h2, h3, h4, h5, h6, h7, h8⟩ := h
  exact ⟨vn, vl, h1, h2, h3, h4, h5, hs g h6 hg, fun k hk => ⟨(h7 k hk).1, (h7 k hk).2.1, hs k (h7 k hk).2.2 (h2.lt k hk).2⟩, fun k hk => ⟨(h8 k hk).1, hs k (h8 k hk).2 (h3.lt k hk).2⟩⟩

/-- how Read ends -/
def MReadEnd (w : World) (l : List UInt8) (e : Ending) (w' : World) : Prop :=
  (∃ now g, readM l = some now ∧ e = .returned (.tuple #[.pointer (some ⟨g, 0, none⟩), .int .i64 0]) ∧ MapAt (fun k => w.heap.size ≤ k ∧ k < w'.heap.size) w' g now now ∧ Ext w w') ∨ (readM l = none ∧ e = .returned (.tuple #[.pointer none, .int .i64 52]) ∧ Ext w w')
theorem readM_no {l : List UInt8} (h : ¬ ((uintF l).2.2 = 0 ∧ (uintF l).1 ≤ 512)) : readM l = none := if_neg fun hh => h ⟨hh.1, hh.2.1⟩

set_option maxRecDepth 100000 in
set_option maxHeartbeats 4000000 in
theorem MRead_any (w : World) (v : Value) (l : List UInt8) (hv : RdB w v l) (hl63 : l.length ≤ 140737488355328) : Calls Try.prog 52 #[v] w (MReadEnd w l) := by
  have HV := hid hv
  obtain ⟨av, cv, rfl, hc1, hc2, -⟩ := id hv
  have hfa := uintF_facts l
  have HNO := hid (readM_no (l := l))
  have HNL := hid (readM_len (l := l))
  have HRM := hid (show readM l = if (uintF l).2.2 = 0 ∧ (uintF l).1 ≤ 512 ∧ mapB (bitsOf (l.drop (uintF l).2.1) (uintF l).1) = l then some (bitsOf (l.drop (uintF l).2.1) (uintF l).1) else none from rfl)
  clear hv
  go_enter Try.func52, Try.ntmps52
  go_wp2_with fail
  refine (Uint_any w _ l HV.out).mono ?_
  rintro e w' ⟨rfl, rfl⟩
  obtain ⟨⟨U, K, E⟩, hUKE⟩ : ∃ x, x = uintF l := ⟨_, rfl⟩
  rw [← hUKE] at HNO HNL HRM hfa ⊢
  dsimp only at HNO HNL HRM hfa ⊢
  clear hUKE
  obtain ⟨hf1, hf2, hf3, hf4⟩ := hfa
  by_cases hE : E = 0
  · subst hE
    have e1 : (((0 : Nat) : Int) == 0) = true := rfl
    have e2 : (((0 : Nat) : Int) != 0) = false := rfl
    by_cases hU : U ≤ 512
    · have u1 : ¬ (512 : Int) < (U : Int) := by omega
      by_cases hL : l.length - K = (U + 7) / 8
      · have l1 : ((l.length : Int) - (K : Int) == ((U : Int) + 7) / 8) = true := by rw [beq_iff_eq]; omega
        have l2 : ((l.length : Int) - (K : Int) != ((U : Int) + 7) / 8) = false := by rw [bne_eq_false_iff_eq]; omega
        have hu64 : IntKind.i64.wrap (U : Int) = (U : Int) := by rw [IntKind.wrap_i64]; omega
        clear hf4
        go_wp2_with fail
        refine (NewM_ok w U hU).mono ?_
        rintro e w1 ⟨g, rfl, hm, hx1⟩
        obtain ⟨vn, vl, h1, h2, h3, h4, h5, h6, h7, h8⟩ := hm
        have hg := (Array.getElem?_eq_some_iff.1 h1).1
        obtain ⟨an, cn, rfl⟩ := h2.slice
        rw [List.length_replicate] at h1 h2 h7
        have c0 : w1.cell? ⟨g, 0, none⟩ = some (.slice an U cn) := (cell_of_row _ _ 0 _ _ _ h1).trans rfl
        have H1 := hid h1
        have H2 := hid h2
        have H3 := hid h3
        have HX1 := hid hx1
        have hgn : ¬ (Value.slice an U cn).ownBlock = some g := fun e => (h7 g e).1 rfl
        clear h1 h2 h3 h4 h5 hx1 l1 l2 u1
        go_wp2_with fail
        go_loopw [40] (fun u40 wr => ∃ i : Nat, u40 = .int .i64 i ∧ i ≤ U ∧ OwnS rBo 4 wr 0 (fun _ => False) (.slice an U cn) ((bitsOf (l.drop K) U).take i ++ List.replicate (U - i) false) ∧ Keep (fun j => ¬ (Value.slice an U cn).ownBlock = some j) w1 wr) (fun u40 _ => U - (intOf u40).toNat)
        case atStart => exact ⟨0, rfl, by omega, by simpa using H2.out, Keep.refl _ _⟩
        case round =>
          obtain ⟨wo, rfl⟩ : ∃ wo : World, wo = wr := ⟨_, rfl⟩
          obtain ⟨i, rfl, hi, ho, hk⟩ := hrel
          have cg := hk.cell c0 hgn
          have HO := hid ho
          have HK := hid hk
          have hll : ((bitsOf (l.drop K) U).take i ++ List.replicate (U - i) false).length = U := by rw [List.length_append, List.length_take, bitsOf_len, List.length_replicate]; omega
          by_cases hlt : i < U
          · obtain ⟨gN, nc, cuN, en, -, hgN, hrN⟩ := ho.head1 (by rw [hll]; omega)
            rw [hll] at en
            simp only [Value.slice.injEq] at en
            obtain ⟨rfl, -, rfl⟩ := en
            obtain ⟨g6, o6, n6, e6, -, -, z6⟩ := ho.rdT.atB i (by rw [hll]; exact hlt)
            simp only [Value.slice.injEq, Option.some.injEq, Addr.mk.injEq] at e6
            obtain ⟨⟨rfl, rfl, -⟩, -, -⟩ := e6
            rw [Nat.zero_add] at z6
            obtain ⟨z6v, hz6⟩ : ∃ x, wo.cell? ⟨gN, i, none⟩ = some (.bool x) := ⟨_, z6⟩
            clear z6
            have f6 := frozen_blk hrN i
            have hjl : K + i / 8 < l.length := by omega
            have hxo : Ext w wo := HX1.out.keepT (T := fun j => (Value.slice (some ⟨gN, 0, none⟩) U cn).ownBlock = some j) hk (fun j hj => (h7 j hj).2.2.1)
            obtain ⟨gb, ob, eb, -, hgb, zb⟩ := rdB_cell (HV.out.ext hxo) (K + i / 8) hjl
            subst eb
            have HB := hid (show l[K + i / 8] = (l.drop K).getD (i / 8) 0 from by
              rw [List.getD_eq_getElem?_getD, List.getElem?_drop, List.getElem?_eq_getElem hjl]; rfl)
            generalize l[K + i / 8] = xb at zb HB
            have HST := hid (bits_step (l.drop K) U i hlt)
            have hw0 : IntKind.i64.wrap ((i : Int) / 8) = (i : Int) / 8 := by rw [IntKind.wrap_i64]; omega
            have hw1 : IntKind.i64.wrap ((K : Int) + (i : Int) / 8) = (K : Int) + (i : Int) / 8 := by rw [IntKind.wrap_i64]; omega
            have hi1 : (0 : Int) ≤ (K : Int) + (i : Int) / 8 := by omega
            have hi2 : (K : Int) + (i : Int) / 8 < (l.length : Int) := by omega
            have hi3 : ((K : Int) + (i : Int) / 8).toNat = K + i / 8 := by omega
            have hbi : bitAt (l.drop K) i = decide (xb.toNat / 2 ^ (i % 8) % 2 = 1) := by rw [HB.out]; rfl
            obtain ⟨r, hr⟩ : ∃ r, r = i % 8 := ⟨_, rfl⟩
            have q2 : (i : Int).tmod 8 = (r : Int) := by rw [Int.tmod_eq_emod_of_nonneg (by omega)]; omega
            have hr8 : r < 8 := by omega
            rw [← hr] at hbi
            have hbb := bit_byte xb r hr8
            rw [← hbi] at hbb
            have HBI := hid hbi
            clear hr hbi ho hk hrN hxo hll
            go_wp2_with fail
            have hxd : Ext wo wo.drew := by (· repeat (first | (with_reducible assumption) | exact Ext.refl _ | refine Ext.alloc ?_ _ | refine Ext.drew ?_ | refine Ext.drewN ?_ _ | (apply Ext.snart; (with_reducible assumption))))
            refine wp_region_T (fun w' => w'.cell? ⟨g, 0, none⟩ = some (.slice (some ⟨gN, 0, none⟩) U cn) ∧ w'.cell? ⟨gb, ob + (K + i / 8), none⟩ = some (.int .u8 ((xb.toNat : Nat) : Int))) [18] (by kernel_rfl) ⟨hxd.cellS cg, hxd.cellS zb⟩ (fun hS => ?_)
            (refine wpAnyT_take (i := 0) (v := ?_) rfl (by kernel_rfl) (by kernel_rfl) (by kernel_rfl) (by kernel_rfl) (fun _ _ _ h => h) (Or.inl ⟨by rfl, ?_⟩) (by assumption) ?_; rotate_left; ((intro wS hSw; (try dsimp only at hSw); (try simp only [List.getElem_toArray, List.getElem_cons_zero, List.getElem_cons_succ]); go_simp); (try with_reducible rfl)); (try simp only [Act.put, List.getElem_toArray, List.getElem_cons_zero, List.getElem_cons_succ, List.setIfInBounds_toArray, List.set_cons_zero, List.set_cons_succ]))
            (refine wpAnyT_take (i := 1) (v := ?_) rfl (by kernel_rfl) (by kernel_rfl) (by kernel_rfl) (by kernel_rfl) (fun _ _ _ h => h) (Or.inl ⟨by rfl, ?_⟩) (by assumption) ?_; rotate_left; ((intro wS hSw; (try dsimp only at hSw); (try simp only [List.getElem_toArray, List.getElem_cons_zero, List.getElem_cons_succ]); go_simp); (try with_reducible rfl)); (try simp only [Act.put, List.getElem_toArray, List.getElem_cons_zero, List.getElem_cons_succ, List.setIfInBounds_toArray, List.set_cons_zero, List.set_cons_succ]))
            (refine wpAnyT_take (i := 2) (v := ?_) rfl (by kernel_rfl) (by kernel_rfl) (by kernel_rfl) (by kernel_rfl) (fun _ _ _ h => h) (Or.inl ⟨by rfl, ?_⟩) (by assumption) ?_; rotate_left; ((intro wS hSw; (try dsimp only at hSw); (try simp only [List.getElem_toArray, List.getElem_cons_zero, List.getElem_cons_succ]); go_simp); (try with_reducible rfl)); (try simp only [Act.put, List.getElem_toArray, List.getElem_cons_zero, List.getElem_cons_succ, List.setIfInBounds_toArray, List.set_cons_zero, List.set_cons_succ]))
            (refine wpAnyT_take (i := 3) (v := ?_) rfl (by kernel_rfl) (by kernel_rfl) (by kernel_rfl) (by kernel_rfl) (fun _ _ _ h => h) (Or.inl ⟨by rfl, ?_⟩) (by assumption) ?_; rotate_left; ((intro wS hSw; (try dsimp only at hSw); (try simp only [List.getElem_toArray, List.getElem_cons_zero, List.getElem_cons_succ]); go_simp); (try with_reducible rfl)); (try simp only [Act.put, List.getElem_toArray, List.getElem_cons_zero, List.getElem_cons_succ, List.setIfInBounds_toArray, List.set_cons_zero, List.set_cons_succ]))
            (refine wpAnyT_take (i := 4) (v := ?_) rfl (by kernel_rfl) (by kernel_rfl) (by kernel_rfl) (by kernel_rfl) (fun _ _ _ h => h) (Or.inl ⟨by rfl, ?_⟩) (by assumption) ?_; rotate_left; ((intro wS hSw; (try dsimp only at hSw); (try simp only [List.getElem_toArray, List.getElem_cons_zero, List.getElem_cons_succ]); go_simp); (try with_reducible rfl)); (try simp only [Act.put, List.getElem_toArray, List.getElem_cons_zero, List.getElem_cons_succ, List.setIfInBounds_toArray, List.set_cons_zero, List.set_cons_succ]))
            (refine wpAnyT_take (i := 5) (v := ?_) rfl (by kernel_rfl) (by kernel_rfl) (by kernel_rfl) (by kernel_rfl) (fun _ _ _ h => h) (Or.inl ⟨by rfl, ?_⟩) (by assumption) ?_; rotate_left; ((intro wS hSw; (try dsimp only at hSw); (try simp only [List.getElem_toArray, List.getElem_cons_zero, List.getElem_cons_succ]); go_simp); (try with_reducible rfl)); (try simp only [Act.put, List.getElem_toArray, List.getElem_cons_zero, List.getElem_cons_succ, List.setIfInBounds_toArray, List.set_cons_zero, List.set_cons_succ]))
            (refine wpAnyT_take (i := 6) (v := ?_) rfl (by kernel_rfl) (by kernel_rfl) (by kernel_rfl) (by kernel_rfl) (fun _ _ _ h => h) (Or.inl ⟨by rfl, ?_⟩) (by assumption) ?_; rotate_left; ((intro wS hSw; (try dsimp only at hSw); (try simp only [List.getElem_toArray, List.getElem_cons_zero, List.getElem_cons_succ]); go_simp); (try with_reducible rfl)); (try simp only [Act.put, List.getElem_toArray, List.getElem_cons_zero, List.getElem_cons_succ, List.setIfInBounds_toArray, List.set_cons_zero, List.set_cons_succ]))
            (refine wpAnyT_take (i := 7) (v := ?_) rfl (by kernel_rfl) (by kernel_rfl) (by kernel_rfl) (by kernel_rfl) (fun _ _ _ h => h) (Or.inl ⟨by rfl, ?_⟩) (by assumption) ?_; rotate_left; ((intro wS hSw; (try dsimp only at hSw); (try simp only [List.getElem_toArray, List.getElem_cons_zero, List.getElem_cons_succ]); go_simp); (try with_reducible rfl)); (try simp only [Act.put, List.getElem_toArray, List.getElem_cons_zero, List.getElem_cons_succ, List.setIfInBounds_toArray, List.set_cons_zero, List.set_cons_succ]))
            (refine wpAnyT_take (i := 8) (v := ?_) rfl (by kernel_rfl) (by kernel_rfl) (by kernel_rfl) (by kernel_rfl) (fun _ _ _ h => h) (Or.inl ⟨by rfl, ?_⟩) (by assumption) ?_; rotate_left; ((intro wS hSw; (try dsimp only at hSw); (try simp only [List.getElem_toArray, List.getElem_cons_zero, List.getElem_cons_succ]); go_simp); (try with_reducible rfl)); (try simp only [Act.put, List.getElem_toArray, List.getElem_cons_zero, List.getElem_cons_succ, List.setIfInBounds_toArray, List.set_cons_zero, List.set_cons_succ]))
            (refine wpAnyT_take (i := 9) (v := ?_) rfl (by kernel_rfl) (by kernel_rfl) (by kernel_rfl) (by kernel_rfl) (fun _ _ _ h => h) (Or.inl ⟨by rfl, ?_⟩) (by assumption) ?_; rotate_left; ((intro wS hSw; (try dsimp only at hSw); (try simp only [List.getElem_toArray, List.getElem_cons_zero, List.getElem_cons_succ]); go_simp); (try with_reducible rfl)); (try simp only [Act.put, List.getElem_toArray, List.getElem_cons_zero, List.getElem_cons_succ, List.setIfInBounds_toArray, List.set_cons_zero, List.set_cons_succ]))
            (refine wpAnyT_take (i := 10) (v := ?_) rfl (by kernel_rfl) (by kernel_rfl) (by kernel_rfl) (by kernel_rfl) (fun _ _ _ h => h) (Or.inl ⟨by rfl, ?_⟩) (by assumption) ?_; rotate_left; ((intro wS hSw; (try dsimp only at hSw); (try simp only [List.getElem_toArray, List.getElem_cons_zero, List.getElem_cons_succ]); go_simp); (try with_reducible rfl)); (try simp only [Act.put, List.getElem_toArray, List.getElem_cons_zero, List.getElem_cons_succ, List.setIfInBounds_toArray, List.set_cons_zero, List.set_cons_succ]))
            (refine wpAnyT_take (i := 11) (v := ?_) rfl (by kernel_rfl) (by kernel_rfl) (by kernel_rfl) (by kernel_rfl) (fun _ _ _ h => h) (Or.inl ⟨by rfl, ?_⟩) (by assumption) ?_; rotate_left; ((intro wS hSw; (try dsimp only at hSw); (try simp only [List.getElem_toArray, List.getElem_cons_zero, List.getElem_cons_succ]); go_simp); (try with_reducible rfl)); (try simp only [Act.put, List.getElem_toArray, List.getElem_cons_zero, List.getElem_cons_succ, List.setIfInBounds_toArray, List.set_cons_zero, List.set_cons_succ]))
            (refine wpAnyT_take (i := 12) (v := ?_) rfl (by kernel_rfl) (by kernel_rfl) (by kernel_rfl) (by kernel_rfl) (fun _ _ _ h => h) (Or.inl ⟨by rfl, ?_⟩) (by assumption) ?_; rotate_left; ((intro wS hSw; (try dsimp only at hSw); (try simp only [List.getElem_toArray, List.getElem_cons_zero, List.getElem_cons_succ]); go_simp); (try with_reducible rfl)); (try simp only [Act.put, List.getElem_toArray, List.getElem_cons_zero, List.getElem_cons_succ, List.setIfInBounds_toArray, List.set_cons_zero, List.set_cons_succ]))
            (refine wpAnyT_take (i := 13) (v := ?_) rfl (by kernel_rfl) (by kernel_rfl) (by kernel_rfl) (by kernel_rfl) (fun _ _ _ h => h) (Or.inl ⟨by rfl, ?_⟩) (by assumption) ?_; rotate_left; ((intro wS hSw; (try dsimp only at hSw); (try simp only [List.getElem_toArray, List.getElem_cons_zero, List.getElem_cons_succ]); go_simp); (try with_reducible rfl)); (try simp only [Act.put, List.getElem_toArray, List.getElem_cons_zero, List.getElem_cons_succ, List.setIfInBounds_toArray, List.set_cons_zero, List.set_cons_succ]))
            (refine wpAnyT_take (i := 14) (v := ?_) rfl (by kernel_rfl) (by kernel_rfl) (by kernel_rfl) (by kernel_rfl) (fun _ _ _ h => h) (Or.inl ⟨by rfl, ?_⟩) (by assumption) ?_; rotate_left; ((intro wS hSw; (try dsimp only at hSw); (try simp only [List.getElem_toArray, List.getElem_cons_zero, List.getElem_cons_succ]); go_simp); (try with_reducible rfl)); (try simp only [Act.put, List.getElem_toArray, List.getElem_cons_zero, List.getElem_cons_succ, List.setIfInBounds_toArray, List.set_cons_zero, List.set_cons_succ]))
            (refine wpAnyT_take (i := 15) (v := ?_) rfl (by kernel_rfl) (by kernel_rfl) (by kernel_rfl) (by kernel_rfl) (fun _ _ _ h => h) (Or.inl ⟨by rfl, ?_⟩) (by assumption) ?_; rotate_left; ((intro wS hSw; (try dsimp only at hSw); (try simp only [List.getElem_toArray, List.getElem_cons_zero, List.getElem_cons_succ]); go_simp); (try with_reducible rfl)); (try simp only [Act.put, List.getElem_toArray, List.getElem_cons_zero, List.getElem_cons_succ, List.setIfInBounds_toArray, List.set_cons_zero, List.set_cons_succ]))
            (refine wpAnyT_take (i := 16) (v := ?_) rfl (by kernel_rfl) (by kernel_rfl) (by kernel_rfl) (by kernel_rfl) (fun _ _ _ h => h) (Or.inl ⟨by rfl, ?_⟩) (by assumption) ?_; rotate_left; ((intro wS hSw; (try dsimp only at hSw); (try simp only [List.getElem_toArray, List.getElem_cons_zero, List.getElem_cons_succ]); go_simp); (try with_reducible rfl)); (try simp only [Act.put, List.getElem_toArray, List.getElem_cons_zero, List.getElem_cons_succ, List.setIfInBounds_toArray, List.set_cons_zero, List.set_cons_succ]))
            (refine wpAnyT_take (i := 17) (v := ?_) rfl (by kernel_rfl) (by kernel_rfl) (by kernel_rfl) (by kernel_rfl) (fun _ _ _ h => h) (Or.inl ⟨by rfl, ?_⟩) (by assumption) ?_; rotate_left; ((intro wS hSw; (try dsimp only at hSw); (try simp only [List.getElem_toArray, List.getElem_cons_zero, List.getElem_cons_succ]); go_simp); (try with_reducible rfl)); (try simp only [Act.put, List.getElem_toArray, List.getElem_cons_zero, List.getElem_cons_succ, List.setIfInBounds_toArray, List.set_cons_zero, List.set_cons_succ]))
            refine wpAnyT_all (rs := [18]) (by kernel_rfl) (by decide) (AllT.consF rfl rfl (fun K hK => ?_) AllT.nil)
            go_simp
            (refine hK.out _ _ ?_; clear hK K)
            refine wpAnyT_done (by kernel_rfl) (NoPanic.normal ?_) _
            go_wp2_with fail
            go_roundw
            case rel =>
              refine ⟨i + 1, by go_num, by omega, ?_, (HK.out.setCell (p := ⟨gN, i, none⟩) (fun h => h rfl) _).drew⟩
              rw [← HST.out]
              exact (HO.out.set1 rfl i (by rw [List.length_append, List.length_take, bitsOf_len, List.length_replicate]; omega) _ _ rfl).ext (by (· repeat (first | (with_reducible assumption) | exact Ext.refl _ | refine Ext.alloc ?_ _ | refine Ext.drew ?_ | refine Ext.drewN ?_ _ | (apply Ext.snart; (with_reducible assumption)))))
            case measure => simp [intOf]; omega
          · obtain rfl : i = U := by omega
            have hrow : OwnS rBo 4 wo 0 (fun _ => False) (.slice an i cn) (bitsOf (l.drop K) i) := by
              have h1 := ho
              rw [List.take_of_length_le (by rw [bitsOf_len]; omega), Nat.sub_self, List.replicate_zero, List.append_nil] at h1
              exact h1
            have hmo : MapAt (fun k => w.heap.size ≤ k ∧ k < w1.heap.size) wo g (bitsOf (l.drop K) i) (List.replicate i false) :=
              ⟨_, _, (hk.block g hgn hg).trans H1.out, hrow, H3.out.kept (hk.mono fun j hj _ => by rcases hj with h | h; exact h.elim; exact fun e => (h7 j e).2.1 h), by rw [bitsOf_len, List.length_replicate], by rw [bitsOf_len]; exact hU, h6, h7, h8⟩
            have hxo : Ext w wo := HX1.out.keepT (T := fun j => (Value.slice an i cn).ownBlock = some j) hk (fun j hj => (h7 j hj).2.2.1)
            have HM := hid hmo
            have HXO := hid hxo
            clear hmo hxo hrow ho hk hll cg
            go_wp2_with fail
            refine (Commit_any _ wo g _ _ HM.out).mono ?_
            rintro e w3 ⟨rfl, hm3, hk3⟩
            have hx3 : Ext w w3 := HXO.out.keepT hk3 (fun k hk => hk.1)
            have HM3 := hid hm3
            have HX3 := hid hx3
            have hsz3 := hk3.size
            clear hm3 hk3 hx3
            go_wp2_with fail
            refine (MBytes_any _ _ g _ _ HM3.out).mono ?_
            (rintro e w' ⟨v', rfl, ho', hb'⟩; have hr' := rdB_own ho'; obtain ⟨a', c', rfl⟩ := OwnB.slice ho'; (try simp only [List.nil_append, List.length_append, List.length_cons, List.length_nil, Nat.zero_add, Nat.reduceAdd] at ho' hr'); have hx' := Ext.of hb'; clear hb')
            have HX4 := hid hx'
            have HR4 := hid hr'
            clear hx' ho' hr'
            go_wp2_with fail
            refine (Eql_any _ _ _ _ _ HR4.out ((HV.out.ext HX3.out).ext HX4.out)).mono ?_
            rintro e w5 ⟨rfl, rfl⟩
            by_cases hq : mapB (bitsOf (l.drop K) i) = l
            · have HQ := hid hq
              rw [decide_eq_true hq]
              clear hq
              go_wp2_with fail
              go_ret2
              refine .inl ⟨_, g, (HRM.out.trans (if_pos ⟨by first | rfl | trivial, hU, HQ.out⟩)), rfl, ((HM3.out.ext HX4.out).mono fun k hk hl => ?_), HX3.out.trans HX4.out⟩
              have hs1 := HXO.out.size
              have hs4 := HX4.out.size
              rcases hk with h | h <;> exact ⟨by omega, hl⟩
            · have HQ := hid hq
              rw [decide_eq_false hq]
              clear hq
              go_wp2_with fail
              go_ret2
              exact .inr ⟨HRM.out.trans (if_neg fun h => HQ.out h.2.2), rfl, HX3.out.trans HX4.out⟩
      · have hnone := HNL.out rfl (by rw [List.length_drop]; exact hL)
        have HN := hid hnone
        have l1 : ((l.length : Int) - (K : Int) == ((U : Int) + 7) / 8) = false := by rw [beq_eq_false_iff_ne]; omega
        have l2 : ((l.length : Int) - (K : Int) != ((U : Int) + 7) / 8) = true := by rw [bne_iff_ne]; omega
        have hu64 : IntKind.i64.wrap (U : Int) = (U : Int) := by rw [IntKind.wrap_i64]; omega
        clear hnone hf4
        go_wp2_with fail
        go_ret2
        exact .inr ⟨HN.out, rfl, Ext.refl _⟩
    · have hnone := HNO.out (fun h => hU h.2)
      have HN := hid hnone
      have u1 : (512 : Int) < (U : Int) := by omega
      clear hnone hf4
      go_wp2_with fail
      go_ret2
      exact .inr ⟨HN.out, rfl, Ext.refl _⟩
  · have hnone := HNO.out (fun h => hE h.1)
    have HN := hid hnone
    have e1 : ((E : Int) == 0) = false := by rw [beq_eq_false_iff_ne]; omega
    have e2 : ((E : Int) != 0) = true := by rw [bne_iff_ne]; omega
    clear hnone hf4
    go_wp2_with fail
    go_ret2
    exact .inr ⟨HN.out, rfl, Ext.refl _⟩
end Go.Proofs.Ytbpcgfplokkfpaa
