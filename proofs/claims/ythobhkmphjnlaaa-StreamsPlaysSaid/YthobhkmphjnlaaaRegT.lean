/- A region that draws its order: a condition on the world is shown anew behind each operation but those that wait for all that lean on it. -/
import Derived.Test.YthobhkmphjnlaaaRegL
namespace Go.Proofs.Ythobhkmphjnlaaa
open Go.RowKit
set_option linter.unusedVariables false

section
variable {P : Program} {ops : Array Oper} {Q : Exit → Act → World → Prop} {md : Region.Mode} {S : World → Prop} {F : List Nat}

/-- whatever order is picked from here on; S holds behind each operation that is not of F -/
def wpAnyT (P : Program) (md : Region.Mode) (ops : Array Oper) (Q : Exit → Act → World → Prop) (S : World → Prop) (F : List Nat) : Nat → Array Bool → Act → World → Prop
  | 0, listed, a, w => Region.ready md ops listed = [] ∧ Q .normal a w
  | fuel + 1, listed, a, w => (Region.ready md ops listed = [] → Q .normal a w) ∧
    ∀ i ∈ Region.ready md ops listed, wpOp P ops Q i (fun a' w' => (F.contains i = false → S w') ∧ wpAnyT P md ops Q S F fuel (listed.setIfInBounds i true) a' w') a w

theorem wpAny_of_T : ∀ (fuel : Nat) (listed : Array Bool) (a : Act) (w : World), wpAnyT P md ops Q S F fuel listed a w → wpAny P md ops Q fuel listed a w
  | 0, _, _, _, h => h
  | fuel + 1, _, _, _, h => ⟨h.1, fun i hi => wpOp_mono (fun a' w' k => wpAny_of_T fuel _ a' w' k.2) (h.2 i hi)⟩

theorem not_waits {i j : Nat} {oj : Oper} {listed : Array Bool} (hui : listed.getD i true = false) (hall : ∀ e ∈ oj.after, Region.binds md e = true → listed.getD e.on false = true) : ∀ e ∈ oj.after, Region.binds md e = true → e.on ≠ i := by
  intro e he hb heq
  have k1 := hall e he hb
  rw [heq] at k1
  rcases Nat.lt_or_ge i listed.size with h' | h'
  · simp [h'] at hui k1; rw [hui] at k1; cases k1
  · simp [Array.getElem?_eq_none h'] at k1

theorem wpAnyT_first {R : World → Prop} {G : Array Bool → Prop} {i : Nat} {oi : Oper} {v : Value} (hi : ops[i]? = some oi) (hsel : ∀ (j : Nat) (o : Oper) cs b, ops[j]? = some o → o.op ≠ .select cs b)
    (hQ : ∀ c a w, Q (.panic c) (a.put oi.dst v) w → Q (.panic c) a w)
    (hG : ∀ (listed : Array Bool) (j : Nat), G listed → listed.getD i true = false → j ∈ Region.ready md ops listed → j ≠ i → G (listed.setIfInBounds j true) ∧ ∀ w', (F.contains j = false → S w') → R w') (hRS : F.contains i = false → ∀ w, R w → S w) :
    ∀ (fuel : Nat) (listed : Array Bool) (a : Act) (w : World),
      (∀ j oj, ops[j]? = some oj → j ≠ i → listed.getD j true = false → (∀ e ∈ oj.after, Region.binds md e = true → e.on ≠ i) → oi.apart ops oj = true) →
      i ∈ Region.ready md ops listed → G listed → YieldsIf P ops R oi v a → R w →
      wpAnyT P md ops Q S F fuel (listed.setIfInBounds i true) (a.put oi.dst v) w → wpAnyT P md ops Q S F (fuel + 1) listed a w := by
  intro fuel
  induction fuel with
  | zero =>
    intro listed a w _ hr hg hy hS H
    refine ⟨fun h => (by rw [h] at hr; cases hr), fun j hj => ?_⟩
    by_cases hji : j = i
    · subst hji; exact hy.wpOp hi hS ⟨fun h => hRS h w hS, H⟩
    · have h := ready_mono hj hji
      rw [H.1] at h
      cases h
  | succ fuel ih =>
    intro listed a w hfree hr hg hy hS H
    refine ⟨fun h => (by rw [h] at hr; cases hr), fun j hj => ?_⟩
    by_cases hji : j = i
    · subst hji; exact hy.wpOp hi hS ⟨fun h => hRS h w hS, H⟩
    · obtain ⟨hun, oj, hoj, hall⟩ := mem_ready.1 hj
      have hui := (mem_ready.1 hr).1
      have hni := not_waits (j := j) hui hall
      obtain ⟨g1, g2⟩ := hG listed j hg hui hj hji
      have h2 := wpOp_putIf hoj (hfree j oj hoj hji hun hni) (fun cs b => hsel i oi cs b hi) (fun cs b => hsel j oj cs b hoj) hQ hy (H.2 j (ready_mono hj hji))
      refine wpOp_mono (fun a' w' h3 => ⟨h3.2.1, ih (listed.setIfInBounds j true) a' w' (fun k ok hk hki huk hno => ?_) (ready_mono hr (Ne.symm hji)) g1 h3.1 (g2 w' h3.2.1) ?_⟩) h2
      · refine hfree k ok hk hki ?_ hno
        by_cases hjk : j = k
        · subst hjk; exact hun
        · rw [getD_set_ne true hjk] at huk; exact huk
      · rw [Array.setIfInBounds_comm _ _ hji]
        exact h3.2.2

/-- those that wait for number i, through others too -/
def depsOf (md : Region.Mode) (ops : Array Oper) (i : Nat) : List Nat :=
  (List.range ops.size).foldl (fun D j => match ops[j]? with
    | some o => if o.after.any (fun e => Region.binds md e && (e.on == i || D.contains e.on)) then D ++ [j] else D
    | none => D) []
/-- D: each waits for number i or for another one of D; none of D has come up; F lies in D; number i is none of F -/
def fWaits (md : Region.Mode) (ops : Array Oper) (F D : List Nat) (listed : Array Bool) (i : Nat) : Bool :=
  (!F.contains i && F.all fun f => D.contains f) && D.all fun f => !(listed.getD f true) && match ops[f]? with
    | some o => o.after.any fun e => Region.binds md e && (e.on == i || D.contains e.on)
    | none => true

/-- an operation that leans on S -/
theorem wpAnyT_take {i : Nat} {oi : Oper} {v : Value} {fuel : Nat} {listed : Array Bool} {a : Act} {w : World} (hi : ops[i]? = some oi)
    (hs : Region.noSelect ops = true) (hf : Region.free md ops listed i = true) (hr : (Region.ready md ops listed).contains i = true) (hF : fWaits md ops F (depsOf md ops i) listed i = true)
    (hQ : ∀ c a w, Q (.panic c) (a.put oi.dst v) w → Q (.panic c) a w) (hy : YieldsIf P ops S oi v a) (hS : S w)
    (h : wpAnyT P md ops Q S F fuel (listed.setIfInBounds i true) (a.put oi.dst v) w) : wpAnyT P md ops Q S F (fuel + 1) listed a w := by
  generalize depsOf md ops i = D at hF
  unfold fWaits at hF
  rw [Bool.and_eq_true, Bool.and_eq_true, List.all_eq_true, List.all_eq_true] at hF
  obtain ⟨⟨hF0, hFD⟩, hF⟩ := hF
  refine wpAnyT_first (R := S) (G := fun L => ∀ f ∈ D, L.getD f true = false) hi (Region.noSelect_spec hs) hQ (fun L j hg hui hj hji => ?_) (fun _ w h => h) fuel listed a w (Region.free_spec hi hf) (by simpa using hr) (fun f hf => ?_) hy hS h
  · have hjD : j ∉ D := by
      intro hm
      obtain ⟨hun, oj, hoj, hall⟩ := mem_ready.1 hj
      have h1 := hF j hm
      rw [hoj, Bool.and_eq_true] at h1
      obtain ⟨e, he, hb⟩ := Array.any_eq_true'.1 h1.2
      simp only [Bool.and_eq_true, Bool.or_eq_true, beq_iff_eq] at hb
      rcases hb.2 with h2 | h2
      · exact absurd h2 (not_waits (j := j) hui hall e he hb.1)
      · have h5 := hg e.on (by simpa using h2)
        exact absurd rfl (not_waits (j := j) h5 hall e he hb.1)
    have hjF : F.contains j = false := by
      cases hc : F.contains j with
      | false => rfl
      | true => exact absurd (by simpa using hFD j (by simpa using hc)) hjD
    refine ⟨fun f hf => ?_, fun w' hw => hw hjF⟩
    have hne : j ≠ f := fun e => hjD (e ▸ hf)
    rw [getD_set_ne true hne]
    exact hg f hf
  · have h1 := hF f hf
    rw [Bool.and_eq_true] at h1
    simpa using h1.1

/-- an operation that looks at no memory -/
theorem wpAnyT_any {i : Nat} {oi : Oper} {v : Value} {fuel : Nat} {listed : Array Bool} {a : Act} {w : World} (hi : ops[i]? = some oi)
    (hs : Region.noSelect ops = true) (hf : Region.free md ops listed i = true) (hr : (Region.ready md ops listed).contains i = true) (hF : F.contains i = true)
    (hQ : ∀ c a w, Q (.panic c) (a.put oi.dst v) w → Q (.panic c) a w) (hy : YieldsIf P ops (fun _ => True) oi v a)
    (h : wpAnyT P md ops Q S F fuel (listed.setIfInBounds i true) (a.put oi.dst v) w) : wpAnyT P md ops Q S F (fuel + 1) listed a w :=
  wpAnyT_first (R := fun _ => True) (G := fun _ => True) hi (Region.noSelect_spec hs) hQ (fun _ _ _ _ _ _ => ⟨trivial, fun _ _ => trivial⟩) (fun h => by rw [hF] at h; cases h) fuel listed a w (Region.free_spec hi hf) (by simpa using hr) trivial hy trivial h

/-- each of those that may come up -/
def AllT (P : Program) (md : Region.Mode) (ops : Array Oper) (Q : Exit → Act → World → Prop) (S : World → Prop) (F : List Nat) (fuel : Nat) (listed : Array Bool) (a : Act) (w : World) (rs : List Nat) : Prop :=
  ∀ i ∈ rs, wpOp P ops Q i (fun a' w' => (F.contains i = false → S w') ∧ wpAnyT P md ops Q S F fuel (listed.setIfInBounds i true) a' w') a w
theorem AllT.nil {fuel : Nat} {listed : Array Bool} {a : Act} {w : World} : AllT P md ops Q S F fuel listed a w [] := fun _ h => by cases h
/-- one of F -/
theorem AllT.consF {fuel : Nat} {listed : Array Bool} {a : Act} {w : World} {i : Nat} {o : Oper} {rs : List Nat} (hi : ops[i]? = some o) (hF : F.contains i = true)
    (h : ∀ K : Act → World → Prop, Hid (∀ a' w', wpAnyT P md ops Q S F fuel (listed.setIfInBounds i true) a' w' → K a' w') → if Region.wanted o (yielded ops a.tmps) = true then Oper.wp P o a w K Q else K (a.put o.dst undef) w)
    (hs : AllT P md ops Q S F fuel listed a w rs) : AllT P md ops Q S F fuel listed a w (i :: rs) := fun j hj => by
  rcases List.mem_cons.1 hj with rfl | hj
  · exact wpOp_step hi (fun K hK => h K (hid fun a' w' hW => hK a' w' ⟨(fun h => by rw [hF] at h; cases h), hW⟩))
  · exact hs j hj
/-- one that is not of F: S is shown anew -/
theorem AllT.consS {fuel : Nat} {listed : Array Bool} {a : Act} {w : World} {i : Nat} {o : Oper} {rs : List Nat} (hi : ops[i]? = some o)
    (h : ∀ K : Act → World → Prop, Hid (∀ a' w', S w' → (S w' → wpAnyT P md ops Q S F fuel (listed.setIfInBounds i true) a' w') → K a' w') → if Region.wanted o (yielded ops a.tmps) = true then Oper.wp P o a w K Q else K (a.put o.dst undef) w)
    (hs : AllT P md ops Q S F fuel listed a w rs) : AllT P md ops Q S F fuel listed a w (i :: rs) := fun j hj => by
  rcases List.mem_cons.1 hj with rfl | hj
  · exact wpOp_step hi (fun K hK => h K (hid fun a' w' hS hW => hK a' w' ⟨fun _ => hS, hW hS⟩))
  · exact hs j hj
theorem wpAnyT_all {rs : List Nat} {fuel : Nat} {listed : Array Bool} {a : Act} {w : World} (hr : Region.ready md ops listed = rs) (hne : rs ≠ [])
    (h : AllT P md ops Q S F fuel listed a w rs) : wpAnyT P md ops Q S F (fuel + 1) listed a w :=
  ⟨fun h0 => absurd (hr ▸ h0) hne, hr ▸ h⟩
theorem wpAnyT_done {listed : Array Bool} {a : Act} {w : World} (hr : Region.ready md ops listed = []) (h : Q .normal a w) : ∀ fuel, wpAnyT P md ops Q S F fuel listed a w
  | 0 => ⟨hr, h⟩
  | _ + 1 => ⟨fun _ => h, by rw [hr]; simp⟩
theorem wp_region_T (S : World → Prop) (F : List Nat) {id : Nat} {a : Act} {w : World} (hm : P.follows .mixedOrders = true) (hS : S w.drew)
    (h : S w.drew → wpAnyT P .any ops (NoPanic Q) S F ops.size (Array.replicate ops.size false) a w.drew) : (Code.region id ops true).wp P Q a w :=
  wp_region_noPanic (wp_region_any hm (wpAny_of_T _ _ _ _ (h hS)))
end
end Go.Proofs.Ythobhkmphjnlaaa
