/- The walks of codec's frames. -/
import Derived.Test.YtgbiffpnfpdcoaaSum
import Derived.Deep.RegionHeld3
import Derived.Deep.DrawnRows
namespace Go.Proofs.Ytgbiffpnfpdcoaa
open Go.RowKit
set_option linter.unusedVariables false
set_option linter.unusedSimpArgs false
attribute [local go_sem ↓] Go.wp_at_zero Go.wp_at_succ

/-- the value of an api.Frame -/
def frV (kind : UInt8) (dv : Value) : Value := .agg #[.int .u8 ((kind.toNat : Nat) : Int), dv]

set_option maxRecDepth 100000 in
set_option maxHeartbeats 1000000 in
theorem PutFrame_long (w : World) (v : Value) (l : List UInt8) (kind : UInt8) (dv : Value) (data : List UInt8) (hd : RdB w dv data) (hlong : 2000 < data.length) :
    Calls Try.prog 82 #[v, .agg #[.int .u8 ((kind.toNat : Nat) : Int), dv]] w fun e w' => e = .returned (.tuple #[.slice none 0 0, .int .i64 12]) ∧ Below w.heap.size w w' := by
  obtain ⟨a, cap, rfl, h1, h2, h3, h4⟩ := id hd
  clear h4
  go_enter Try.func82, Try.ntmps82
  go_wp2
  go_ret2
  exact ⟨rfl, (Below.refl _ _).alloc (Nat.le_refl _) _⟩

set_option maxRecDepth 100000 in
set_option maxHeartbeats 1000000 in
theorem PutFrame_any (w : World) (v : Value) (l : List UInt8) (kind : UInt8) (dv : Value) (data : List UInt8) (hv : RdB w v l) (hd : RdB w dv data) (hlong : data.length ≤ 2000) (hl : l.length + 2100 ≤ 140737488355328) :
    Calls Try.prog 82 #[v, .agg #[.int .u8 ((kind.toNat : Nat) : Int), dv]] w fun e w' => ∃ v', e = .returned (.tuple #[v', .int .i64 0]) ∧ OwnB w' w.heap.size v' (l ++ putF kind data) ∧ Below w.heap.size w w' := by
  obtain ⟨a, cap, rfl, h1, h2, h3, h4⟩ := id hd
  clear h4
  go_enter Try.func82, Try.ntmps82
  go_wp2
  have hwr : IntKind.u64.wrap ((data.length : Nat) : Int) = (data.length : Int) := by rw [IntKind.wrap_u64]; omega
  have HK := hid ((rdB_blk (w.alloc (.cells #[.int .u8 ((kind.toNat : Nat) : Int), .slice a data.length cap] 138)) (w.heap.size + 1) #[.int .u8 ((kind.toNat : Nat) : Int)] 5 [kind] 1 (by simp) rfl (by omega) rfl).drew)
  have HD := hid (((hd.alloc (.cells #[.int .u8 ((kind.toNat : Nat) : Int), .slice a data.length cap] 138)).alloc (.cells #[.int .u8 ((kind.toNat : Nat) : Int)] 5)).drew)
  have hpl := putU_len data.length
  go_region_held3 (fun w' => w'.cell? ⟨w.heap.size, 0, none⟩ = some (.int .u8 ((kind.toNat : Nat) : Int)) ∧ w'.cell? ⟨w.heap.size, 1, none⟩ = some (.slice a data.length cap))
    (first | go_keep | exact ⟨(hb1.cell (p := ⟨w.heap.size, 0, none⟩) (by simp; omega)).trans (by simp [go_sem]), (hb1.cell (p := ⟨w.heap.size, 1, none⟩) (by simp; omega)).trans (by simp [go_sem])⟩ | (go_split_ands; exact ⟨(k5.cell (p := ⟨w.heap.size, 0, none⟩) (by simp)).trans (by assumption), (k5.cell (p := ⟨w.heap.size, 1, none⟩) (by simp)).trans (by assumption)⟩) | trivial)
    (first | (go_at_call 83; go_must (refine (PutUint_any _ _ [kind] data.length HK.out (by omega) (by simp)).mono ?_; rintro e w1 ⟨v1, rfl, ho1, hb1⟩; have HD1 := hid (HD.out.below hb1); have HO1 := hid (OwnB.low (base' := w.heap.size + 2) ho1 (by simp)); have hs1 := hb1.size; simp at hs1; clear ho1)) | ((with_reducible refine at_step_append ?_); go_must (refine step_appB rfl _ _ _ rfl (w.heap.size + 2) v1 ([kind] ++ putU data.length) rfl (appB_own HO1.out) _ data rfl (src_B HD1.out) ?_ ?_ ?_; (first | omega | (simp only [List.length_cons, List.length_nil, List.length_append, le32]; omega)); (first | omega | (simp only [World.alloc, Array.size_push]; omega)); intro v' w' k1 k2 k3 k4 k5 k6)))
  have hbel : Below w.heap.size w w' := (((((Below.refl _ _).alloc (Nat.le_refl _) _).alloc (by simp) _).drew.trans (hb1.mono (by simp; omega)))).trans (k5.mono (by omega))
  have HR := hid (show OwnB w' (w.heap.size + 2) v' (restF kind data) by have := k3 HO1.out; rwa [show [kind] ++ putU data.length ++ data = restF kind data by simp [restF]] at this)
  have HV := hid (hv.below hbel)
  have hs2 := hbel.size
  have hrl := restF_length kind data
  have hsf := sumF_lt (restF kind data)
  clear k1 k2 k3 k4 k5 k6 hb1 HK HD HD1 HO1 hwr hs1
  go_wp2_with (first | (go_at_call 94; refine (Sum_any _ _ (restF kind data) (rdB_own HR.out)).mono ?_; rintro e w2 ⟨rfl, hb2⟩; have HR2 := hid (own_belowS HR.out hb2); have HV2 := hid (HV.out.below hb2); have hs3 := hb2.size) | (go_at_call 93; refine (Put32_any _ v l (sumF (restF kind data)) HV2.out (by omega) (by omega)).mono ?_; rintro e w3 ⟨v3, rfl, ho3, hb3⟩; have HR3 := hid (own_belowS HR2.out hb3); have hs4 := hb3.size; have HO3 := hid (OwnB.low (base' := w.heap.size) ho3 (by omega)); clear ho3) | (at_builtin; go_must (refine wl_appB rfl _ _ _ rfl w.heap.size v3 (l ++ le32 (sumF (restF kind data))) rfl (appB_own HO3.out) _ (restF kind data) rfl (src_B (rdB_own HR3.out)) ?_ ?_ ?_; (first | omega | (simp only [List.length_cons, List.length_nil, List.length_append, le32]; omega)); (first | omega | (simp only [World.alloc, Array.size_push]; omega)); intro v' w' k1 k2 k3 k4 k5 k6)))
  go_ret2
  refine ⟨v', rfl, ?_, hbel.trans ((hb2.mono hs2).trans ((hb3.mono (by omega)).trans k5))⟩
  rw [putF, ← List.append_assoc]
  exact k3 HO3.out

/-! ### bytes.Clone -/

theorem run_eqB (W : World) (a : Option Addr) (n c : Nat) : (binOp .eql 22 (.slice a n c) (.slice none 0 0)).run Try.prog W = .ok (.bool a.isNone) W := by
  simp only [binOp]
  simp [Op.equal, Op.maxDepth, Lib.run_equalIn_slice_nil W 9999 22 5 a n c 0 0 Try.underlying22]

set_option maxRecDepth 100000 in
set_option maxHeartbeats 1000000 in
theorem Clone_any (w : World) (v : Value) (l : List UInt8) (hv : RdB w v l) (hl : l.length ≤ 140737488355328) :
    Calls Try.prog 73 #[v] w (NewB l w) := by
  obtain ⟨a, cap, rfl, h1, h2, h3, h4⟩ := id hv
  clear h4
  have he := fun W : World => run_eqB W a l.length cap
  cases a with
  | none =>
    have hl0 : l = [] := by
      obtain ⟨a, cap, e, _, _, _, h4⟩ := hv
      simp only [Value.slice.injEq] at e
      by_cases h0 : 0 < l.length
      · obtain ⟨g, o, e2, _⟩ := h4 h0
        rw [← e.1] at e2; cases e2
      · exact List.eq_nil_of_length_eq_zero (by omega)
    subst hl0
    clear he
    have he := fun W : World => run_eqB W none 0 cap
    go_enter Try.func73, Try.ntmps73
    go_wp2
    go_ret
    exact ⟨_, rfl, World.ownsRow_nil _ _ _ _, Below.refl _ _⟩
  | some p =>
    have HV := hid (hv.alloc (.cells #[] 5))
    have HA : Hid (OwnB (w.alloc (.cells #[] 5)) w.heap.size (.slice (some ⟨w.heap.size, 0, none⟩) 0 0) []) := World.ownsRow_made w #[] 0 (Nat.le_refl _) (by simp [maxLen]) rfl
    go_enter Try.func73, Try.ntmps73
    go_wp2_with (at_builtin; go_must (refine wl_appB rfl _ _ _ rfl w.heap.size (.slice (some ⟨w.heap.size, 0, none⟩) 0 0) [] rfl (appB_own HA.out) _ l rfl (src_B HV.out) ?_ ?_ ?_; (first | omega | (simp only [List.length_cons, List.length_nil, List.length_append, le32]; omega)); (first | omega | (simp only [World.alloc, Array.size_push]; omega)); intro v' w' k1 k2 k3 k4 k5 k6))
    go_ret
    exact ⟨v', rfl, k3 HA.out, ((Below.refl _ _).alloc (Nat.le_refl _) _).trans k5⟩
end Go.Proofs.Ytgbiffpnfpdcoaa
