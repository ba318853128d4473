/- an array of rows of strings, as BlockdevKeeps keeps it. -/
import Derived.Test.YtgbiffpnfpdcoaaBdM
import Derived.Test.YtgbiffpnfpdcoaaBdN
namespace Go.Proofs.Ytgbiffpnfpdcoaa
open Go.RowKit Go.Maps
set_option linter.unusedVariables false
set_option linter.unusedSimpArgs false

def arrV (vs : Nat → Value) : Array Value := ((List.range 64).map vs).toArray
theorem arrV_get (vs : Nat → Value) (i : Nat) (h : i < 64) : (arrV vs)[i]? = some (vs i) := by
  unfold arrV; simp [h]
theorem arrV_set (vs : Nat → Value) (i : Nat) (x : Value) : (arrV vs).setIfInBounds i x = arrV (fun j => if j = i then x else vs j) := by
  unfold arrV
  apply Array.ext_getElem?
  intro j
  rw [Array.getElem?_setIfInBounds]
  by_cases h : i = j
  · subst h
    by_cases h4 : i < 64
    · simp [h4]
    · simp [h4]
  · rw [if_neg h]
    by_cases h4 : j < 64
    · simp [h4, Ne.symm h]
    · simp [h4]
def B2 (b : Bk) : ByteArray := ⟨b.toArray⟩
theorem B2_inj {a b : Bk} : B2 a = B2 b ↔ a = b := by
  constructor
  · intro h
    have := congrArg (fun x => x.data.toList) h
    simpa [B2] using this
  · rintro rfl; rfl
/-- rows of strings, each of its own, no part of the device; their array lies at z -/
structure MayAt (w : World) (ρ : Nat → Option DRol) (z B : Nat) (vs : Nat → Value) (f : Nat → List Bk) : Prop where
  row : w.heap[z]? = some (.cells (arrV vs) 43 (0, 0))
  own : ∀ n, n < 64 → OwnS rS 9 w B (fun _ => False) (vs n) ((f n).map B2)
  apart : ∀ n m, n < 64 → m < 64 → n ≠ m → ∀ k, (vs n).ownBlock = some k → (vs m).ownBlock ≠ some k
  off : ∀ n, n < 64 → ∀ k, (vs n).ownBlock = some k → k ≠ z ∧ ρ k = none
  rol : ρ z = none
section
variable {w w' : World} {ρ ρ' : Nat → Option DRol} {z B : Nat} {vs : Nat → Value} {f : Nat → List Bk}
theorem MayAt.zlt (h : MayAt w ρ z B vs f) : z < w.heap.size := (Array.getElem?_eq_some_iff.1 h.row).1
theorem MayAt.kept (h : MayAt w ρ z B vs f) (hk : Keep (fun k => ρ k = none) w w') : MayAt w' ρ z B vs f :=
  ⟨row_past hk h.row h.rol, fun n hn => (h.own n hn).kept (hk.mono fun k hk _ => by
    rcases hk with hk | hk
    · exact hk.elim
    · exact (h.off n hn k hk).2), h.apart, h.off, h.rol⟩
theorem MayAt.ext (h : MayAt w ρ z B vs f) (hx : Ext w w') : MayAt w' ρ z B vs f := h.kept (hx.keep _)
theorem MayAt.past (h : MayAt w ρ z B vs f) (hk : Keep (fun k => ρ k = none) w w') (hr : ∀ k, ρ' k ≠ none → ρ k ≠ none ∨ w.heap.size ≤ k) : MayAt w' ρ' z B vs f := by
  have hn : ∀ k, ρ k = none → k < w.heap.size → ρ' k = none := fun k h1 h2 => by
    by_cases e : ρ' k = none
    · exact e
    · rcases hr k e with h3 | h3
      · exact absurd h1 h3
      · omega
  have h' := h.kept hk
  exact ⟨h'.row, h'.own, h'.apart, fun n hn' k hk' => ⟨(h'.off n hn' k hk').1, hn k (h'.off n hn' k hk').2 ((h.own n hn').lt k hk').2⟩, hn z h.rol h.zlt⟩
theorem MayAt.cong {f' : Nat → List Bk} (h : MayAt w ρ z B vs f) (he : ∀ n, n < 64 → f n = f' n) : MayAt w ρ z B vs f' :=
  ⟨h.row, fun n hn => by rw [← he n hn]; exact h.own n hn, h.apart, h.off, h.rol⟩
/-- a row in the place of another -/
theorem MayAt.put (h : MayAt w ρ z B vs f) {n : Nat} (hn : n < 64) {v' : Value} {l : List Bk} (hk : Keep (fun k => (vs n).ownBlock ≠ some k) w w') (ho : OwnS rS 9 w' B (fun _ => False) v' (l.map B2)) (hb : ∀ k, v'.ownBlock = some k → (vs n).ownBlock = some k ∨ w.heap.size ≤ k) (hlate : ∀ k, w.heap.size ≤ k → ρ k = none) :
    MayAt (w'.setCell ⟨z, n, none⟩ v') ρ z B (fun j => if j = n then v' else vs j) (fun j => if j = n then l else f j) := by
  have hz := h.zlt
  have hzn : (vs n).ownBlock ≠ some z := fun e => (h.off n hn z e).1 rfl
  have hvz : ∀ k, v'.ownBlock = some k → k ≠ z := fun k hk' e => by
    subst e
    rcases hb k hk' with h1 | h1
    · exact hzn h1
    · omega
  have hs : Keep (fun k => k ≠ z) w' (w'.setCell ⟨z, n, none⟩ v') := (Keep.refl _ _).setCell (by simp) _
  refine ⟨?_, fun m hm => ?_, fun a b ha hb' hab k hk' => ?_, fun m hm k hk' => ?_, h.rol⟩
  · have h1 := blk_set (o := n) ((hk.block z hzn hz).trans h.row) v'
    rw [arrV_set] at h1
    exact h1
  · by_cases e : m = n
    · subst e
      simp only [if_true]
      exact ho.kept (hs.mono fun k hk' _ => by
        rcases hk' with hk' | hk'
        · exact hk'.elim
        · exact hvz k hk')
    · simp only [if_neg e]
      exact ((h.own m hm).kept (hk.mono fun k hk' _ => by
        rcases hk' with hk' | hk'
        · exact hk'.elim
        · exact h.apart m n hm hn e k hk')).kept (hs.mono fun k hk' _ => by
        rcases hk' with hk' | hk'
        · exact hk'.elim
        · exact (h.off m hm k hk').1)
  · by_cases ea : a = n
    · have eb : ¬ b = n := fun e => hab (ea.trans e.symm)
      simp only [if_pos ea] at hk'
      simp only [if_neg eb]
      intro e
      rcases hb k hk' with h1 | h1
      · exact h.apart b n hb' hn eb k e h1
      · have := ((h.own b hb').lt k e).2; omega
    · simp only [if_neg ea] at hk'
      by_cases eb : b = n
      · simp only [if_pos eb]
        intro e
        rcases hb k e with h1 | h1
        · exact h.apart a n ha hn ea k hk' h1
        · have := ((h.own a ha).lt k hk').2; omega
      · simp only [if_neg eb]
        exact h.apart a b ha hb' hab k hk'
  · by_cases e : m = n
    · simp only [if_pos e] at hk'
      refine ⟨hvz k hk', ?_⟩
      rcases hb k hk' with h1 | h1
      · exact (h.off n hn k h1).2
      · exact hlate k h1
    · simp only [if_neg e] at hk'
      exact h.off m hm k hk'
theorem own_one (w : World) (B : Nat) (hB : B ≤ w.heap.size) (b : Bk) (hb : b.length = 512) : OwnS rS 9 (w.alloc (.cells #[.string (B2 b)] 9)) B (fun _ => False) (.slice (some ⟨w.heap.size, 0, none⟩) 1 1) ([b].map B2) := by
  refine ⟨[([.string (B2 b)], B2 b)], rfl, World.ownsRow_lit w #[.string (B2 b)] 1 hB (by unfold maxLen; decide) rfl, fun _ _ h => h, fun p hp => ?_⟩
  obtain rfl := List.mem_singleton.1 hp
  refine ⟨rfl, ?_⟩
  show b.toArray.size ≤ _
  rw [List.size_toArray, hb]
  decide
theorem MayAt.one (h : MayAt w ρ z B vs f) {n : Nat} (hn : n < 64) {b : Bk} (hb : b.length = 512) (hB : B ≤ w.heap.size) (hlate : ∀ k, w.heap.size ≤ k → ρ k = none) :
    MayAt ((w.alloc (.cells #[.string (B2 b)] 9)).setCell ⟨z, n, none⟩ (.slice (some ⟨w.heap.size, 0, none⟩) 1 1)) ρ z B (fun j => if j = n then .slice (some ⟨w.heap.size, 0, none⟩) 1 1 else vs j) (fun j => if j = n then [b] else f j) :=
  h.put hn (((Ext.refl _).alloc _).keep _) (own_one w B hB b hb) (fun k hk => by simp only [Value.ownBlock, Option.some.injEq] at hk; right; omega) hlate
end
theorem Mine.kept2 {w W W' : World} {g : Nat} {ρ : Nat → Option DRol} {N : Nat} {d : Dv} (hm : Mine w W g ρ N d) (hk : Keep (fun k => ρ k ≠ none ∨ k < w.heap.size) W W') : Mine w W' g ρ N d := by
  refine ⟨hm.dv.keep (hk.mono fun k h _ => .inl h), hm.nw, Keep.ext ?_⟩
  have h1 : Keep (fun k => k < w.heap.size) w W := hm.ex.keep _
  exact (h1.trans (hk.mono fun k h _ => .inr h)).mono fun k _ hl => hl
theorem infoSt : (Try.prog.info? 9).map (fun i => (i.zero, i.size, i.bytes)) = some (some (.string ⟨#[]⟩), 1, 16) := by kernel_rfl
/-- append of a string -/
theorem step_appSt {w : World} {ops : Array Oper} {o : Oper} {a : Act} {K : Act → World → Prop} {Q : Exit → Act → World → Prop} {E : Prop} (hgd : o.guard = none) (s x : Operand)
    (ho : o.op = .call { callee := .builtin .append, args := #[s, x], argTypes := #[42, 42] }) (B : Nat) (hB : B ≤ w.heap.size) (v : Value) (xs : List Bk) (hs : a.eval s = v) (happ : OwnS rS 9 w B (fun _ => False) v (xs.map B2))
    (b : Bk) (hb : b.length = 512) (gb : Nat) (hx : a.eval x = .slice (some ⟨gb, 0, none⟩) 1 1) (hrow : w.heap[gb]? = some (.cells #[.string (B2 b)] 9 (0, 0))) (hl : xs.length ≤ 1000)
    (h : ∀ v' w', OwnS rS 9 w' B (fun _ => False) v' ((xs ++ [b]).map B2) → w.grownBy w' v.ownBlock → (∀ k, v'.ownBlock = some k → v.ownBlock = some k ∨ w.heap.size ≤ k) → K (a.put o.dst v') w') :
    if Region.wanted o (yielded ops a.tmps) = true then Oper.wp Try.prog o a w K Q else E := by
  have hw : Region.wanted o (yielded ops a.tmps) = true := by simp [Region.wanted, hgd]
  rw [if_pos hw]
  refine wp_appS rS s x 42 42 9 (.string ⟨#[]⟩) 16 ho Try.underlying42 infoSt rfl B (fun _ => False) v (xs.map B2) hs happ _ [([.string (B2 b)], B2 b)] hx ?_ ?_ (fun _ h => h.elim) (by simp; omega) (by simp; omega) hB ?_
  · exact src_row Try.underlying42 hrow (fun u' hu => by obtain rfl := List.mem_singleton.1 hu; rfl) rfl
  · intro p hp
    obtain rfl := List.mem_singleton.1 hp
    refine ⟨rfl, ?_⟩
    show b.toArray.size ≤ _
    rw [List.size_toArray, hb]
    decide
  · intro v' w' k1 k2 k3
    refine h v' w' ?_ k2 k3
    rw [List.map_append]
    exact k1
end Go.Proofs.Ytgbiffpnfpdcoaa
