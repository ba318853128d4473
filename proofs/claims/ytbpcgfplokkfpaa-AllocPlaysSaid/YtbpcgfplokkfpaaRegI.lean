/- A region that draws its order, in a round of a range over a function: by the laws of the plain walk. -/
import Derived.Test.YtbpcgfplokkfpaaRegT
import Derived.OrdersIn
import Derived.RangeFuncCalls
namespace Go.Proofs.Ytbpcgfplokkfpaa
open Go.RowKit
set_option linter.unusedVariables false

section
variable {P : Program} {ops : Array Oper} {Q : Exit → Act → World → Prop} {md : Region.Mode} {l n : Nat}

def noDefer (ops : Array Oper) : Bool := ops.all fun o => match o.op with
  | .defer _ => false
  | _ => true
theorem noDefer_spec (h : noDefer ops = true) {i : Nat} {o : Oper} (hi : ops[i]? = some o) (c : Call) : o.op ≠ .defer c := by
  intro e
  unfold noDefer at h
  rw [Array.all_eq_true] at h
  obtain ⟨hlt, hget⟩ := Array.getElem?_eq_some_iff.1 hi
  have := h i hlt
  rw [hget, e] at this
  cases this

theorem wpOpIn_round {i : Nat} {K : Act → World → Prop} {a : Act} {w : World} (hno : ¬ LetsOut Q) (hd : noDefer ops = true) (h : wpOp P ops Q i K a w) : wpOpIn (Fence.wide.inRound l) n P ops Q i K a w := by
  unfold wpOp at h
  unfold wpOpIn
  cases hi : ops[i]? with
  | none => rw [hi] at h; exact h
  | some o =>
    rw [hi] at h
    dsimp only at h ⊢
    by_cases hw : Region.wanted o (yielded ops a.tmps) = true
    · rw [if_pos hw] at h ⊢
      rcases h with h | h
      · refine ⟨fun _ _ => trivial, ?_⟩
        rw [Fence.inRound_round, Oper.semAt_some l _ _ (fun c => noDefer_spec hd hi c)]
        unfold Oper.wp at h
        generalize (execOp a.eval o).run P w = r at h ⊢
        cases r with
        | ok x w' =>
          cases x
          case enter f args => exact ⟨fun h => by simp [Fence.wide] at h, CallsIn.inRound l (callsIn_wide.2 h)⟩
          case row row args => exact ⟨fun h => by simp [Fence.wide] at h, fun c cs _ => let ⟨v, w', r, s⟩ := h c cs; ⟨v, w', r, stepsIn_wide.2 s⟩⟩
          case round => exact (h : False).elim
          all_goals exact h
        | halt x w' => cases x <;> first | exact h | exact (h : False).elim
      · exact absurd h.2 hno
    · rw [if_neg hw] at h ⊢
      exact ⟨fun _ _ => trivial, h⟩
theorem wpAnyIn_round (hno : ¬ LetsOut Q) (hd : noDefer ops = true) : ∀ (fuel : Nat) (listed : Array Bool) (a : Act) (w : World), wpAny P md ops Q fuel listed a w → wpAnyIn (Fence.wide.inRound l) n P md ops Q fuel listed a w
  | 0, _, _, _, h => h
  | fuel + 1, _, _, _, h => ⟨h.1, fun i hi => wpOpIn_mono (fun a' w' k => wpAnyIn_round hno hd fuel _ a' w' k) (wpOpIn_round hno hd (h.2 i hi))⟩
theorem noPanic_stays (hno : ¬ LetsOut Q) : ¬ LetsOut (NoPanic Q) := fun ⟨a, w, h⟩ => hno ⟨a, w, h⟩
/-- as wp_region_T, in a round -/
theorem wpIn_region_T (S : World → Prop) (F : List Nat) {id : Nat} {a : Act} {w : World} (hm : P.follows .mixedOrders = true) (hno : ¬ LetsOut Q) (hd : noDefer ops = true) (hS : S w.drew)
    (h : S w.drew → wpAnyT P .any ops (NoPanic Q) S F ops.size (Array.replicate ops.size false) a w.drew) : (Code.region id ops true).wpIn (Fence.wide.inRound l) n P Q a w :=
  wpIn_mono (wpIn_region_any hm (wpAnyIn_round (noPanic_stays hno) hd _ _ _ _ (wpAny_of_T _ _ _ _ (h hS)))) NoPanic.imp
end
end Go.Proofs.Ytbpcgfplokkfpaa
