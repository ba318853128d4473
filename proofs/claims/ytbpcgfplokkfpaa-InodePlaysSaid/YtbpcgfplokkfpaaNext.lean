/- inode.Read's reader of one number, walked. -/
import Derived.Test.YtbpcgfplokkfpaaGetA
import Derived.Test.YtbpcgfplokkfpaaRdr
namespace Go.Proofs.Ytbpcgfplokkfpaa
open Go.RowKit
set_option linter.unusedVariables false
set_option linter.unusedSimpArgs false

theorem RdB.keep {S : Nat → Prop} {w w' : World} {v : Value} {l : List UInt8} (h : RdB w v l) (hk : Keep S w w') (hS : 0 < l.length → ∀ k, v.ownBlock = some k → S k) : RdB w' v l :=
  Rd.carry0 h hk.size fun hn k hb hl => hk.block k (hS hn k hb) hl
/-- one number: its value, where the next one begins, and whether something was wrong -/
def nextF (l : List UInt8) (st : Nat × Bool) : Nat × (Nat × Bool) :=
  if (uintF (l.drop st.1)).2.2 ≠ 0 ∨ 32768 < (uintF (l.drop st.1)).1 then (0, (st.1, true)) else ((uintF (l.drop st.1)).1, (st.1 + (uintF (l.drop st.1)).2.1, st.2))
theorem nextF_le (l : List UInt8) (st : Nat × Bool) (h : st.1 ≤ l.length) : (nextF l st).1 ≤ 32768 ∧ (nextF l st).2.1 ≤ l.length := by
  have hf := uintF_facts (l.drop st.1)
  rw [List.length_drop] at hf
  unfold nextF
  split
  · exact ⟨by omega, h⟩
  · exact ⟨by dsimp only; omega, by dsimp only; omega⟩
/-- the reader's three cells -/
def CurAt (w : World) (gb ga gd : Nat) (v : Value) (l : List UInt8) (st : Nat × Bool) : Prop :=
  w.cell? ⟨gb, 0, none⟩ = some v ∧ RdB w v l ∧ w.heap[ga]? = some (.cells #[.int .i64 st.1] 3 (0, 0)) ∧ w.heap[gd]? = some (.cells #[.bool st.2] 4 (0, 0)) ∧ ga ≠ gd ∧ gb ≠ ga ∧ gb ≠ gd ∧ st.1 ≤ l.length
    ∧ (0 < l.length → ∀ k, v.ownBlock = some k → k ≠ ga ∧ k ≠ gd)
def NextEnd (w : World) (gb ga gd : Nat) (v : Value) (l : List UInt8) (st : Nat × Bool) (e : Ending) (w' : World) : Prop :=
  e = .returned (.int .i64 ((nextF l st).1 : Nat)) ∧ CurAt w' gb ga gd v l (nextF l st).2 ∧ Keep (fun k => k ≠ ga ∧ k ≠ gd) w w'

set_option maxRecDepth 100000 in
set_option maxHeartbeats 1000000 in
theorem next_any (w : World) (gb ga gd : Nat) (v : Value) (l : List UInt8) (st : Nat × Bool) (h : CurAt w gb ga gd v l st) :
    Calls Try.prog 74 #[.pointer (some ⟨gb, 0, none⟩), .pointer (some ⟨ga, 0, none⟩), .pointer (some ⟨gd, 0, none⟩)] w (NextEnd w gb ga gd v l st) := by
  have H := hid h
  obtain ⟨c0, hr, ha, hd, hn1, hn2, hn3, hst, hv⟩ := h
  obtain ⟨at0, bad⟩ := st
  dsimp only at ha hd hst
  have c1 : w.cell? ⟨ga, 0, none⟩ = some (.int .i64 at0) := by rw [cell_of_row _ _ _ _ _ _ ha]; rfl
  have c2 : w.cell? ⟨gd, 0, none⟩ = some (.bool bad) := by rw [cell_of_row _ _ _ _ _ _ hd]; rfl
  have f1 : w.frozen? ⟨ga, 0, none⟩ = false := by simp [World.frozen?, ha]
  have f2 : w.frozen? ⟨gd, 0, none⟩ = false := by simp [World.frozen?, hd]
  obtain ⟨a, cap, rfl, hc1, hc2, -, -⟩ := id hr
  have HD := hid (hr.drop at0 hst)
  have hc3 : cap ≤ 9223372036854775807 := by unfold maxLen at hc2; omega
  have hf := uintF_facts (l.drop at0)
  rw [List.length_drop] at hf
  have HNX := hid (show nextF l (at0, bad) = if (uintF (l.drop at0)).2.2 ≠ 0 ∨ 32768 < (uintF (l.drop at0)).1 then (0, (at0, true)) else ((uintF (l.drop at0)).1, (at0 + (uintF (l.drop at0)).2.1, bad)) from rfl)
  obtain ⟨U, HU⟩ : ∃ U, Hid (uintF (l.drop at0) = U) := ⟨_, hid rfl⟩
  rw [HU.out] at hf HNX
  obtain ⟨n, k, e⟩ := U
  dsimp only at hf
  have HR := hid hr
  have HA := hid ha
  have HDD := hid hd
  have HV := hid hv
  clear hr ha hd H hc2 hv
  have KEEP0 := hid (show Keep (fun k => k ≠ ga ∧ k ≠ gd) w (w.setCell ⟨gd, 0, none⟩ (.bool true)) from (Keep.refl _ w).setCell (by simp) _)
  have key0 : CurAt (w.setCell ⟨gd, 0, none⟩ (.bool true)) gb ga gd (.slice a l.length cap) l (at0, true) := by
    refine ⟨by rw [← c0]; simp [go_sem, hn3], HR.out.keep KEEP0.out HV.out, ?_, ?_, hn1, hn2, hn3, hst, HV.out⟩
    · rw [Below.heap_setCell _ _ _ _ hn1]; exact HA.out
    · simp [World.setCell, Array.getElem?_modify, HDD.out]
  have KEY0 := hid key0
  clear key0
  by_cases he : e = 0
  · subst he
    by_cases hbig : 32768 < n
    · have HNX2 := hid (show nextF l (at0, bad) = (0, (at0, true)) by rw [HNX.out, if_pos (.inr hbig)])
      clear HNX
      go_enter Try.func74, Try.ntmps74
      go_wp2_with (first | ((with_reducible refine at_slice ?_); go_must (refine wl_slice_l rfl rfl Try.underlying50 sizeU8 rfl rfl at0 rfl ?_ ?_; omega)) | (go_at_call 75; go_must (refine (Uint_any _ _ (l.drop at0) HD.out).mono ?_; rw [HU.out]; dsimp only; rintro e w' ⟨rfl, rfl⟩)))
      go_ret
      exact ⟨by rw [HNX2.out]; rfl, by rw [HNX2.out]; exact KEY0.out, KEEP0.out⟩
    · have HNX2 := hid (show nextF l (at0, bad) = (n, (at0 + k, bad)) by rw [HNX.out, if_neg (by simp; omega)])
      have hk : at0 + k ≤ l.length := by omega
      have KEEP1 := hid (show Keep (fun k => k ≠ ga ∧ k ≠ gd) w (w.setCell ⟨ga, 0, none⟩ (.int .i64 ((at0 : Int) + (k : Int)))) from (Keep.refl _ w).setCell (by simp) _)
      have key1 : CurAt (w.setCell ⟨ga, 0, none⟩ (.int .i64 ((at0 : Int) + (k : Int)))) gb ga gd (.slice a l.length cap) l (at0 + k, bad) := by
        refine ⟨by rw [← c0]; simp [go_sem, hn2], HR.out.keep KEEP1.out HV.out, ?_, ?_, hn1, hn2, hn3, hk, HV.out⟩
        · simp [World.setCell, Array.getElem?_modify, HA.out]
        · rw [Below.heap_setCell _ _ _ _ (fun e => hn1 e.symm)]; exact HDD.out
      have KEY1 := hid key1
      clear HNX key1
      go_enter Try.func74, Try.ntmps74
      go_wp2_with (first | ((with_reducible refine at_slice ?_); go_must (refine wl_slice_l rfl rfl Try.underlying50 sizeU8 rfl rfl at0 rfl ?_ ?_; omega)) | (go_at_call 75; go_must (refine (Uint_any _ _ (l.drop at0) HD.out).mono ?_; rw [HU.out]; dsimp only; rintro e w' ⟨rfl, rfl⟩)))
      go_ret
      exact ⟨by rw [HNX2.out]; rfl, by rw [HNX2.out]; exact KEY1.out, KEEP1.out⟩
  · have he0 : ((e : Int) == 0) = false := by rw [beq_eq_false_iff_ne]; omega
    have HNX2 := hid (show nextF l (at0, bad) = (0, (at0, true)) by rw [HNX.out, if_pos (.inl he)])
    clear HNX
    go_enter Try.func74, Try.ntmps74
    go_wp2_with (first | ((with_reducible refine at_slice ?_); go_must (refine wl_slice_l rfl rfl Try.underlying50 sizeU8 rfl rfl at0 rfl ?_ ?_; omega)) | (go_at_call 75; go_must (refine (Uint_any _ _ (l.drop at0) HD.out).mono ?_; rw [HU.out]; dsimp only; rintro e w' ⟨rfl, rfl⟩)))
    go_ret
    exact ⟨by rw [HNX2.out]; rfl, by rw [HNX2.out]; exact KEY0.out, KEEP0.out⟩
/-- the same, of what nextF is in the caller's names -/
theorem next_eq (w : World) (gb ga gd : Nat) (v : Value) (l : List UInt8) (at0 : Nat) (bad : Bool) (n at1 : Nat) (bad1 : Bool) (h : CurAt w gb ga gd v l (at0, bad)) (hn : nextF l (at0, bad) = (n, (at1, bad1))) :
    Calls Try.prog 74 #[.pointer (some ⟨gb, 0, none⟩), .pointer (some ⟨ga, 0, none⟩), .pointer (some ⟨gd, 0, none⟩)] w (fun e w' => e = .returned (.int .i64 (n : Nat)) ∧ CurAt w' gb ga gd v l (at1, bad1) ∧ Keep (fun k => k ≠ ga ∧ k ≠ gd) w w') := by
  refine (next_any w gb ga gd v l _ h).mono fun e w' hh => ?_
  obtain ⟨h1, h2, h3⟩ := hh
  rw [hn] at h1 h2
  exact ⟨h1, h2, h3⟩
end Go.Proofs.Ytbpcgfplokkfpaa
