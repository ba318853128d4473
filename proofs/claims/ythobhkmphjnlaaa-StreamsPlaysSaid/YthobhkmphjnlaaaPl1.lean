/- The document Index of streams: plain, and what its functions come to (Entries, Of, Keyed, named, right, Try). -/
import Derived.Test.YthobhkmphjnlaaaStrV
import Derived.Test.YthobhkmphjnlaaaNamS
import Derived.Test.YthobhkmphjnlaaaStrE
import Derived.Test.YthobhkmphjnlaaaStrW
import Derived.Test.YthobhkmphjnlaaaOpnE
import Derived.Test.YthobhkmphjnlaaaRegT

/- The document's streams, in plain Lean: batches in a list; what an Index answers is what they answer. -/
namespace Go.Proofs.Ythobhkmphjnlaaa
set_option linter.unusedVariables false
set_option linter.unusedSimpArgs false

def pushB (s : ByteArray) : List Ent → Int → List Ev → List Ent
  | out, _, [] => out
  | out, n, e :: l => pushB s (out ++ [((out.length : Int), s, n, e)]) (n + 1) l
/-- all entries -/
def entsF (L : List Bat) : List Ent := L.foldl (fun out b => pushB b.1 out b.2.2.1 b.2.2.2) []
theorem entsF_snoc (L : List Bat) (b : Bat) : entsF (L ++ [b]) = pushB b.1 (entsF L) b.2.2.1 b.2.2.2 := by unfold entsF; rw [List.foldl_append]; rfl
theorem pushB_len (s : ByteArray) : ∀ (l : List Ev) (out : List Ent) (n : Int), (pushB s out n l).length = out.length + l.length
  | [], out, n => rfl
  | e :: l, out, n => by
    show (pushB s (out ++ _) (n + 1) l).length = _
    rw [pushB_len s l]; simp; omega
theorem pushB_snoc (s : ByteArray) (e : Ev) : ∀ (l : List Ev) (out : List Ent) (n : Int), pushB s out n (l ++ [e]) = pushB s out n l ++ [(((out.length + l.length : Nat) : Int), s, n + l.length, e)]
  | [], out, n => by simp [pushB]
  | x :: l, out, n => by
    show pushB s (out ++ _) (n + 1) (l ++ [e]) = pushB s (out ++ _) (n + 1) l ++ _
    rw [pushB_snoc s e l]
    congr 3
    · simp; omega
    · congr 2; simp; omega
/-- those of a stream -/
def ofF (out : List Ent) (s : ByteArray) : List Ent := out.filter fun e => decide (e.2.1 = s)
theorem ofF_snoc (out : List Ent) (e : Ent) (s : ByteArray) : ofF (out ++ [e]) s = if e.2.1 = s then ofF out s ++ [e] else ofF out s := by
  unfold ofF
  rw [List.filter_append]
  by_cases h : e.2.1 = s
  · rw [if_pos h]; simp [h]
  · rw [if_neg h]; simp [h]
/-- what the append of a key has come to -/
def keyR (k : ByteArray) : List Bat → Int → ByteArray × (Apd × Bool)
  | [], _ => (⟨#[]⟩, app0, false)
  | b :: l, p => if k ≠ ⟨#[]⟩ ∧ b.2.1 = k then (b.1, (b.2.2.1, p, (b.2.2.2.length : Int), false), true) else keyR k l (p + b.2.2.2.length)
def evN (L : List Bat) : Nat := (entsF L).length
theorem evN_snoc (L : List Bat) (b : Bat) : evN (L ++ [b]) = evN L + b.2.2.2.length := by unfold evN; rw [entsF_snoc, pushB_len]
def sumN : List Bat → Nat
  | [] => 0
  | b :: l => b.2.2.2.length + sumN l
theorem foldl_pushB_len : ∀ (L : List Bat) (out : List Ent), (L.foldl (fun out b => pushB b.1 out b.2.2.1 b.2.2.2) out).length = out.length + sumN L
  | [], out => rfl
  | b :: l, out => by
    show (l.foldl _ (pushB b.1 out b.2.2.1 b.2.2.2)).length = _
    rw [foldl_pushB_len l, pushB_len]; simp [sumN]; omega
theorem evN_sum (L : List Bat) : evN L = sumN L := by unfold evN entsF; rw [foldl_pushB_len]; simp
theorem keyR_snoc (k : ByteArray) (b : Bat) : ∀ (L : List Bat) (p : Int), keyR k (L ++ [b]) p = if (keyR k L p).2.2 = true then keyR k L p else if k ≠ ⟨#[]⟩ ∧ b.2.1 = k then (b.1, (b.2.2.1, p + sumN L, (b.2.2.2.length : Int), false), true) else (⟨#[]⟩, app0, false)
  | [], p => by
    show keyR k [b] p = _
    unfold keyR
    by_cases h : k ≠ ⟨#[]⟩ ∧ b.2.1 = k
    · rw [if_pos h]; simp [keyR, h, sumN]
    · rw [if_neg h]; simp [keyR, h]
  | c :: l, p => by
    show keyR k (c :: (l ++ [b])) p = _
    unfold keyR
    by_cases h : k ≠ ⟨#[]⟩ ∧ c.2.1 = k
    · rw [if_pos h, if_pos h]; simp
    · rw [if_neg h, if_neg h, keyR_snoc k b l]
      have : p + (c.2.2.2.length : Int) + (sumN l : Int) = p + (sumN (c :: l) : Int) := by simp [sumN]; omega
      rw [this]
theorem keyR_empty : ∀ (L : List Bat) (p : Int), keyR ⟨#[]⟩ L p = (⟨#[]⟩, app0, false)
  | [], p => rfl
  | b :: l, p => by unfold keyR; rw [if_neg (by simp)]; exact keyR_empty l _
def addR (L : List Bat) (b : Bat) : List Bat × Nat :=
  if namedF b.1 b.2.1 = false then (L, 100)
  else if (keyR b.2.1 L 0).2.2 = true then (L, 101)
  else if rightF b.2.2.2 = false then (L, 102)
  else if b.2.2.1 ≠ ((ofF (entsF L) b.1).length : Int) then (L, 103)
  else (L ++ [b], 0)
def tryR (L : List Bat) (s : ByteArray) (n : Int) (k : ByteArray) (l : List Ev) : Apd × (Bat × Nat) :=
  if namedF s k = false then (app0, bat0, 100)
  else if (keyR k L 0).2.2 = true then
    if (keyR k L 0).1 ≠ s then (app0, bat0, 101) else (((keyR k L 0).2.1.1, (keyR k L 0).2.1.2.1, (keyR k L 0).2.1.2.2.1, true), bat0, 0)
  else if rightF l = false then (app0, bat0, 102) else if n < -1 then (app0, bat0, 1) else if 0 ≤ n ∧ n ≠ ((ofF (entsF L) s).length : Int) then (app0, bat0, 103)
  else ((((ofF (entsF L) s).length : Int), (evN L : Int), (l.length : Int), false), (s, k, ((ofF (entsF L) s).length : Int), l), 0)

/-- an Index stands as the document's batches -/
structure Rel (x : Ix) (L : List Bat) : Prop where
  good : Good x
  all : x.all = entsF L
  of : ∀ s, atF x (x.str s) = ofF x.all s
  key : ∀ k, keyF x k = keyR k L 0
  nm : ∀ s, x.str s ≠ [] ↔ ∃ b ∈ L, b.1 = s
theorem Rel.len {x : Ix} {L : List Bat} (h : Rel x L) (s : ByteArray) : (x.str s).length = (ofF (entsF L) s).length := by
  rw [← h.all, ← h.of]; unfold atF; rw [List.length_map]
theorem Rel.zero : Rel ix0 [] where
  good := Good.zero
  all := rfl
  of := fun s => rfl
  key := fun k => rfl
  nm := fun s => by simp [ix0]
theorem atF_addE (x : Ix) (s : ByteArray) (n : Int) (e : Ev) (l : List Int) (h : ∀ k ∈ l, 0 ≤ k ∧ k < (x.all.length : Int)) : atF (addE s x n e) l = atF x l := by
  unfold atF
  apply List.map_congr_left
  intro k hk
  obtain ⟨h1, h2⟩ := h k hk
  have : k.toNat < x.all.length := by omega
  show (x.all ++ [_]).getD k.toNat ent0 = _
  rw [List.getD_eq_getElem?_getD, List.getD_eq_getElem?_getD, List.getElem?_append_left this]
theorem of_addE {x : Ix} (hg : Good x) (ho : ∀ s, atF x (x.str s) = ofF x.all s) (s : ByteArray) (n : Int) (e : Ev) (t : ByteArray) : atF (addE s x n e) ((addE s x n e).str t) = ofF (addE s x n e).all t := by
  have ha : (addE s x n e).all = x.all ++ [((x.all.length : Int), s, n, e)] := rfl
  have hs : (addE s x n e).str t = if t = s then x.str s ++ [(x.all.length : Int)] else x.str t := rfl
  rw [ha, ofF_snoc, hs]
  by_cases h : t = s
  · subst h
    rw [if_pos rfl, if_pos rfl, ← ho]
    have h1 := atF_addE x t n e (x.str t) (hg.range t)
    unfold atF at h1 ⊢
    rw [List.map_append, h1]
    congr 1
    simp only [List.map_cons, List.map_nil, ha]
    congr 1
    rw [List.getD_eq_getElem?_getD, Int.toNat_natCast, List.getElem?_append_right (Nat.le_refl _)]
    simp
  · rw [if_neg h, if_neg (fun e => h e.symm), ← ho]
    exact atF_addE x s n e (x.str t) (hg.range t)
theorem addEs_all' (s : ByteArray) : ∀ (l : List Ev) (x : Ix) (n : Int), (addEs s x n l).all = pushB s x.all n l
  | [], x, n => rfl
  | e :: l, x, n => addEs_all' s l (addE s x n e) (n + 1)
theorem of_addEs (s : ByteArray) : ∀ (l : List Ev) {x : Ix} (hg : Good x) (ho : ∀ t, atF x (x.str t) = ofF x.all t) (n : Int), n = ((x.str s).length : Int) → ∀ t, atF (addEs s x n l) ((addEs s x n l).str t) = ofF (addEs s x n l).all t
  | [], x, hg, ho, n, hn => ho
  | e :: l, x, hg, ho, n, hn => by
    refine of_addEs s l (x := addE s x n e) ?_ (of_addE hg ho s n e) (n + 1) ?_
    · rw [hn]; exact hg.addE s e
    · rw [addE_strlen, hn]; omega
theorem keyF_addEs (s : ByteArray) (x : Ix) (n : Int) (l : List Ev) (k : ByteArray) : keyF (addEs s x n l) k = keyF x k := by unfold keyF; rw [addEs_key]
theorem nm_addEs (s : ByteArray) : ∀ (l : List Ev) (x : Ix) (n : Int) (t : ByteArray), (addEs s x n l).str t ≠ [] ↔ (x.str t ≠ [] ∨ (t = s ∧ l ≠ []))
  | [], x, n, t => by simp [addEs]
  | e :: l, x, n, t => by
    show (addEs s (addE s x n e) (n + 1) l).str t ≠ [] ↔ _
    rw [nm_addEs s l]
    have hs : (addE s x n e).str t = if t = s then x.str s ++ [(x.all.length : Int)] else x.str t := rfl
    rw [hs]
    by_cases h : t = s
    · subst h; simp
    · simp [h]
theorem Rel.add {x : Ix} {L : List Bat} (h : Rel x L) (b : Bat) : (addF x b).2 = (addR L b).2 ∧ Rel (addF x b).1 (addR L b).1 := by
  have hk : (x.key b.2.1).isSome = (keyR b.2.1 L 0).2.2 := by
    rw [← h.key]; unfold keyF
    cases x.key b.2.1 <;> rfl
  unfold addF addR
  rw [hk, h.len]
  by_cases h1 : namedF b.1 b.2.1 = false
  · rw [if_pos h1, if_pos h1]; exact ⟨rfl, h⟩
  rw [if_neg h1, if_neg h1]
  by_cases h2 : (keyR b.2.1 L 0).2.2 = true
  · rw [if_pos h2, if_pos h2]; exact ⟨rfl, h⟩
  rw [if_neg h2, if_neg h2]
  by_cases h3 : rightF b.2.2.2 = false
  · rw [if_pos h3, if_pos h3]; exact ⟨rfl, h⟩
  rw [if_neg h3, if_neg h3]
  by_cases h4 : b.2.2.1 ≠ ((ofF (entsF L) b.1).length : Int)
  · rw [if_pos h4, if_pos h4]; exact ⟨rfl, h⟩
  rw [if_neg h4, if_neg h4]
  refine ⟨rfl, ?_⟩
  have h4' : b.2.2.1 = ((x.str b.1).length : Int) := by rw [h.len]; exact Classical.not_not.1 h4
  have hgk : Good (keyed x b.2.1 b.1 b.2.2.1 b.2.2.2.length) := h.good.keyed _ _ _ _
  have hn : b.2.2.1 = (((keyed x b.2.1 b.1 b.2.2.1 b.2.2.2.length).str b.1).length : Int) := by rw [keyed_str]; exact h4'
  have hrt : rightF b.2.2.2 = true := by
    cases hh : rightF b.2.2.2 with
    | true => rfl
    | false => exact absurd hh h3
  obtain ⟨-, hr2, -⟩ := rightF_len hrt
  refine ⟨hgk.addEs _ _ hn, ?_, ?_, fun k => ?_, fun s => ?_⟩
  · show (addEs b.1 _ b.2.2.1 b.2.2.2).all = _
    rw [addEs_all', keyed_all, h.all, entsF_snoc]
  · refine of_addEs b.1 b.2.2.2 hgk (fun t => ?_) _ hn
    show atF (keyed x _ _ _ _) ((keyed x _ _ _ _).str t) = _
    have : atF (keyed x b.2.1 b.1 b.2.2.1 b.2.2.2.length) = atF x := by unfold atF; rw [keyed_all]
    rw [this, keyed_str, keyed_all]; exact h.of t
  · rw [keyF_addEs, keyR_snoc, ← h.key]
    have hal : (x.all.length : Int) = (0 : Int) + (sumN L : Int) := by rw [← evN_sum]; unfold evN; rw [← h.all]; omega
    have hkn : x.key b.2.1 = none := by
      cases hh : x.key b.2.1 with
      | none => rfl
      | some z => rw [hh] at hk; exact absurd hk.symm h2
    unfold keyF keyed
    by_cases he : b.2.1 = ⟨#[]⟩
    · rw [if_pos he]
      by_cases hkk : k = ⟨#[]⟩
      · subst hkk
        rw [he] at hkn
        rw [hkn]; simp
      · cases hx : x.key k with
        | some z => simp
        | none =>
          rw [if_neg (by simp), if_neg]
          rintro ⟨-, e⟩
          exact hkk (e.symm.trans he)
    · rw [if_neg he]
      dsimp only
      by_cases hkk : k = b.2.1
      · subst hkk
        rw [if_pos rfl, hkn]
        simp [he, hal]
      · rw [if_neg hkk]
        cases hx : x.key k with
        | some z => simp
        | none =>
          rw [if_neg (by simp), if_neg]
          rintro ⟨-, e⟩
          exact hkk e.symm
  · show (addEs b.1 _ b.2.2.1 b.2.2.2).str s ≠ [] ↔ _
    rw [nm_addEs, keyed_str, h.nm]
    have hne : b.2.2.2 ≠ [] := fun e => by rw [e] at hr2; simp at hr2
    constructor
    · rintro (⟨c, hc, rfl⟩ | ⟨rfl, -⟩)
      · exact ⟨c, by simp [hc], rfl⟩
      · exact ⟨b, by simp, rfl⟩
    · rintro ⟨c, hc, rfl⟩
      rcases List.mem_append.1 hc with hc | hc
      · exact .inl ⟨c, hc, rfl⟩
      · obtain rfl := List.mem_singleton.1 hc
        exact .inr ⟨rfl, hne⟩
theorem Rel.try {x : Ix} {L : List Bat} (h : Rel x L) (s : ByteArray) (n : Int) (k : ByteArray) (l : List Ev) : tryF x s n k l = tryR L s n k l := by
  unfold tryF tryR
  have hk := h.key k
  have hall : (x.all.length : Int) = (evN L : Int) := by unfold evN; rw [h.all]
  rw [h.len]
  by_cases h1 : namedF s k = false
  · rw [if_pos h1, if_pos h1]
  rw [if_neg h1, if_neg h1, ← hk]
  unfold keyF
  cases hx : x.key k with
  | none => simp [hall]
  | some z => simp
end Go.Proofs.Ythobhkmphjnlaaa

/- The document's Index in memory; Entries, walked. -/
namespace Go.Proofs.Ythobhkmphjnlaaa
open Go.RowKit Go.Maps
set_option linter.unusedVariables false
set_option linter.unusedSimpArgs false

/-- block r is the document's Index that holds L, out of blocks of U -/
def RIx (U : Nat → Prop) (w : World) (r : Nat) (L : List Bat) : Prop :=
  ∃ v S, w.heap[r]? = some (.cells #[v] 75 (0, 0)) ∧ OwnS rB 31 w 0 S v L ∧ U r ∧ ¬ S r ∧ (∀ k, S k → U k) ∧ ∀ k, v.ownBlock = some k → U k ∧ k ≠ r
theorem RIx.keep {U : Nat → Prop} {w w' : World} {r : Nat} {L : List Bat} (h : RIx U w r L) (hk : Keep U w w') : RIx U w' r L := by
  obtain ⟨v, S, h1, h2, h3, h4, h5, h6⟩ := h
  exact ⟨v, S, (hk.block r h3 (Array.getElem?_eq_some_iff.1 h1).1).trans h1, h2.kept (hk.mono fun k hk _ => by
    rcases hk with hk | hk
    · exact h5 k hk
    · exact (h6 k hk).1), h3, h4, h5, h6⟩
theorem RIx.ext {U : Nat → Prop} {w w' : World} {r : Nat} {L : List Bat} (h : RIx U w r L) (hx : Ext w w') : RIx U w' r L := h.keep (hx.keep _)
/-- its batches are as an Index takes them -/
def BOk (L : List Bat) : Prop := ∀ b ∈ L, 0 ≤ b.2.2.1 ∧ b.2.2.1 ≤ 100000 ∧ b.2.2.2.length ≤ 16
theorem infoEnt1 : (Try.prog.info? 71).map (fun i => (i.zero, i.size, i.bytes)) = some (some (.agg #[.int .i64 0, .string ⟨#[]⟩, .int .i64 0, .string ⟨#[]⟩, .int .i64 0, .slice none 0 0]), rEnt.size, 80) := infoEnt
theorem rEnt_mk {w : World} {S : Nat → Prop} {fv : Value} {p n m : Int} {s t : ByteArray} {fs : List Fld} (h1 : -9223372036854775808 ≤ p ∧ p ≤ 9223372036854775807) (h2 : s.size ≤ 9223372036854775807) (h3 : -9223372036854775808 ≤ n ∧ n ≤ 9223372036854775807) (h4 : t.size ≤ 9223372036854775807) (h5 : -9223372036854775808 ≤ m ∧ m ≤ 9223372036854775807) (h6 : RdS rF w S fv fs) :
    rEnt.rd w S [.int .i64 p, .string s, .int .i64 n, .string t, .int .i64 m, fv] (p, s, n, t, m, fs) :=
  ⟨[_], _, rfl, ⟨rfl, h1⟩, [_], _, rfl, ⟨rfl, h2⟩, [_], _, rfl, ⟨rfl, h3⟩, [_], _, rfl, ⟨rfl, h4⟩, [_], _, rfl, ⟨rfl, h5⟩, h6⟩
/-- append of one element, in a region that draws -/
theorem step_app1 {α : Type} (r : Rdr α) {w : World} {ops : Array Oper} {o : Oper} {a : Act} {K : Act → World → Prop} {Q : Exit → Act → World → Prop} {E : Prop} (hgd : o.guard = none) (s x : Operand) (tl te : TypeId) (z : Value) (bytes : Nat)
    (ho : o.op = .call { callee := .builtin .append, args := #[s, x], argTypes := #[tl, tl] }) (hts : Try.prog.underlying tl = some (.slice te)) (hinfo : (Try.prog.info? te).map (fun i => (i.zero, i.size, i.bytes)) = some (some z, r.size, bytes)) (hzs : z.cells.size = r.size)
    (B : Nat) (S : Nat → Prop) (hB : B ≤ w.heap.size) (v : Value) (xs : List α) (hs : a.eval s = v) (happ : OwnS r te w B S v xs)
    (cs : List Value) (y : α) (hrd : r.rd w S cs y) (gb : Nat) (hx : a.eval x = .slice (some ⟨gb, 0, none⟩) 1 1) (hrow : w.heap[gb]? = some (.cells cs.toArray te (0, 0))) (hSlt : ∀ k, S k → k < w.heap.size) (hb : (xs.length + 1) * bytes ≤ 140737488355328) (hl : xs.length + 1 ≤ 9223372036854775807)
    (h : ∀ v' w', OwnS r te w' B S v' (xs ++ [y]) → w.grownBy w' v.ownBlock → (∀ k, v'.ownBlock = some k → v.ownBlock = some k ∨ w.heap.size ≤ k) → K (a.put o.dst v') w') :
    if Region.wanted o (yielded ops a.tmps) = true then Oper.wp Try.prog o a w K Q else E := by
  have hw : Region.wanted o (yielded ops a.tmps) = true := by simp [Region.wanted, hgd]
  rw [if_pos hw]
  refine wp_appS r s x tl tl te z bytes ho hts hinfo hzs B S v xs hs happ _ [(cs, y)] hx ?_ ?_ hSlt (by simpa using hb) (by simpa using hl) hB ?_
  · have := src_row hts hrow (r.one hrd) (by rw [r.len hrd, Nat.one_mul])
    simpa [cellsOf] using this
  · intro p hp
    obtain rfl := List.mem_singleton.1 hp
    exact hrd
  · intro v' w' k1 k2 k3
    exact h v' w' k1 k2 k3
theorem RdS.atBat {w : World} {S : Nat → Prop} {v : Value} {xs : List Bat} (h : RdS rB w S v xs) (i : Nat) (hi : i < xs.length) :
    ∃ g o cap ev, v = .slice (some ⟨g, o, none⟩) xs.length cap ∧ g < w.heap.size ∧ S g ∧ w.cell? ⟨g, o + i * 4, none⟩ = some (.string xs[i].1) ∧ w.cell? ⟨g, o + i * 4 + 1, none⟩ = some (.string xs[i].2.1) ∧ w.cell? ⟨g, o + i * 4 + 2, none⟩ = some (.int .i64 xs[i].2.2.1) ∧ w.cell? ⟨g, o + i * 4 + 3, none⟩ = some ev ∧
      xs[i].1.size ≤ 9223372036854775807 ∧ xs[i].2.1.size ≤ 9223372036854775807 ∧ RdS rE w S ev xs[i].2.2.2 := by
  obtain ⟨g, o, cap, cs, rfl, hg, hS, _, hc, hr⟩ := h.at i hi
  obtain ⟨ev, rfl, h1, h2, _, h4⟩ := rB_cells hr
  refine ⟨g, o, cap, ev, rfl, hg, hS, ?_, ?_, ?_, ?_, h1, h2, h4⟩
  · have := hc 0 _ rfl; rw [Nat.add_zero] at this; exact this
  · have := hc 1 _ rfl; rw [Nat.add_assoc]; exact this
  · have := hc 2 _ rfl; rw [Nat.add_assoc]; exact this
  · have := hc 3 _ rfl; rw [Nat.add_assoc]; exact this
theorem evN_take (L : List Bat) (i : Nat) (hi : i < L.length) : evN (L.take (i + 1)) = evN (L.take i) + L[i].2.2.2.length := by
  rw [← List.take_append_getElem hi, evN_snoc]
theorem sumN_append : ∀ (a b : List Bat), sumN (a ++ b) = sumN a + sumN b
  | [], b => by simp [sumN]
  | x :: a, b => by simp [sumN, sumN_append a b, Nat.add_assoc]
theorem evN_le (L : List Bat) (i : Nat) : evN (L.take i) ≤ evN L := by
  rw [evN_sum, evN_sum]
  have := sumN_append (L.take i) (L.drop i)
  rw [List.take_append_drop] at this
  omega
theorem entsF_take (L : List Bat) (i : Nat) (hi : i < L.length) : entsF (L.take (i + 1)) = pushB L[i].1 (entsF (L.take i)) L[i].2.2.1 L[i].2.2.2 := by
  rw [← List.take_append_getElem hi, entsF_snoc]

set_option maxRecDepth 100000 in
set_option maxHeartbeats 4000000 in
theorem REntries_any (w : World) (U : Nat → Prop) (r : Nat) (L : List Bat) (h : RIx U w r L) (hN : evN L ≤ 100000) (hL : L.length ≤ 100000) (hb : BOk L) :
    Calls Try.prog 39 #[.pointer (some ⟨r, 0, none⟩)] w fun e w' => ∃ v S', e = .returned v ∧ OwnS rEnt 71 w' w.heap.size S' v (entsF L) ∧ (∀ k, S' k → U k ∧ k < w.heap.size) ∧ Ext w w' := by
  obtain ⟨v, S, h1, h2, h3, h4, h5, h6⟩ := h
  obtain ⟨va, vc, rfl⟩ := h2.slice
  have c0 := (cell_of_row _ _ 0 _ _ _ h1).trans rfl
  have HRD := hid (h2.rd.mono (S' := fun k => U k ∧ k < w.heap.size) fun k hk hl => ⟨by
    rcases hk with hk | hk
    · exact h5 k hk
    · exact (h6 k hk).1, hl⟩)
  have HB := hid hb
  have HN := hid hN
  clear h1 h2 h3 h4 h5 h6 hb hN
  go_enter Try.func39, Try.ntmps39
  go_wp2_with fail
  go_loopw [3, 4] (fun u3 u4 wr => ∃ i : Nat, u4 = .int .i64 i ∧ i ≤ L.length ∧ OwnS rEnt 71 wr w.heap.size (fun k => U k ∧ k < w.heap.size) u3 (entsF (L.take i)) ∧ Ext w wr) (fun _ u4 _ => L.length - (intOf u4).toNat)
  case atStart => exact ⟨0, rfl, Nat.zero_le _, OwnS.nil _ _ _ _ _, Ext.refl _⟩
  case round =>
    obtain ⟨i, rfl, hi, hown, hx⟩ := hrel
    have HO := hid hown
    have HX := hid hx
    have d0 := Ext.cellS hx c0
    obtain ⟨oa, oc, hov⟩ := hown.slice
    subst hov
    have hx0 := hx
    clear hown hx
    by_cases hlt : i < L.length
    · obtain ⟨gb, ob, cb, ev, e, hgb, -, b0, b1, b2, b3, k1, k2, hev⟩ := (HRD.out.ext hx0).atBat i hlt
      simp only [Value.slice.injEq] at e
      obtain ⟨rfl, -, rfl⟩ := e
      obtain ⟨l1, l2, l3⟩ := HB.out _ (List.getElem_mem hlt)
      have HEN := hid (entsF_take L i hlt)
      have hNe := evN_take L i hlt
      have hNl := evN_le L (i + 1)
      have hN0 := HN.out
      have HEV := hid hev
      generalize L[i] = b at b0 b1 b2 b3 k1 k2 l1 l2 l3 HEN hNe HEV hev
      obtain ⟨bs, bk, bf, be⟩ := b
      dsimp only at b0 b1 b2 b3 k1 k2 l1 l2 l3 HEN hNe HEV hev
      obtain ⟨ea, ec, rfl, -, -⟩ := hev.slice
      obtain ⟨out0, hout⟩ : ∃ out0, entsF (L.take i) = out0 := ⟨_, rfl⟩
      have hol : out0.length + be.length ≤ 100000 := by rw [← hout]; have : (entsF (L.take i)).length = evN (L.take i) := rfl; omega
      rw [hout] at HO HEN ⊢
      have i1 : (i : Int) < (L.length : Int) := by omega
      have hw1 : IntKind.i64.wrap ((i : Int) + 1) = (i : Int) + 1 := by rw [IntKind.wrap_i64]; omega
      have HK := hid k1
      clear hNe hNl hN0 hout hev b1 k1 k2 hx0
      obtain ⟨w0, hw0⟩ : ∃ w0, w0 = wr := ⟨_, rfl⟩
      go_wp2_with fail
      go_loopw [3, 5] (fun u3 u5 wq => ∃ k : Nat, u5 = .int .i64 k ∧ k ≤ be.length ∧ OwnS rEnt 71 wq w.heap.size (fun k => U k ∧ k < w.heap.size) u3 (pushB bs out0 bf (be.take k)) ∧ Ext w wq ∧ Keep (fun k => k < w.heap.size) w0 wq) (fun _ u5 _ => be.length - (intOf u5).toNat)
      case atStart => exact ⟨0, rfl, Nat.zero_le _, HO.out, HX.out, by rw [hw0]; exact Keep.refl _ _⟩
      case round =>
        rw [← hw0] at HX HEV d0 b0 b2 b3
        obtain ⟨k, rfl, hk, hown, hx, hkk⟩ := hrel
        have hsz : w.heap.size ≤ w0.heap.size := HX.out.size
        have hx1 : ∀ g o v, g < w.heap.size → w0.cell? ⟨g, o, none⟩ = some v → wr.cell? ⟨g, o, none⟩ = some v := fun g o v hg h => hkk.cell h hg
        have hrl : r < w.heap.size := World.block_lt_of_cell? _ _ c0
        have HOW := hid hown
        have HXQ := hid hx
        have HKK := hid hkk
        have hrow1 := hx1 _ _ _ hrl d0
        have hlen : (pushB bs out0 bf (be.take k)).length = out0.length + k := by rw [pushB_len, List.length_take]; omega
        obtain ⟨ua, uc, hu⟩ := hown.slice
        rw [hlen] at hu
        subst hu
        by_cases hlk : k < be.length
        · have hgbl : gb < w.heap.size := by
            obtain ⟨_, _, _, _, e, hg, _⟩ := HRD.out.atBat i (by omega)
            simp only [Value.slice.injEq, Option.some.injEq, Addr.mk.injEq] at e
            omega
          have e0 := hx1 _ _ _ hgbl b0
          have e2 := hx1 _ _ _ hgbl b2
          have e3 := hx1 _ _ _ hgbl b3
          have hevq : RdS rE wr (fun k => U k ∧ k < w.heap.size) (.slice ea be.length ec) be := HEV.out.kept (hkk.mono fun k hk _ => hk.2)
          obtain ⟨ge, oe, ce, fv, e, hge, hge2, q0, q1, q2, m1, m2, hfv⟩ := hevq.atE k hlk
          simp only [Value.slice.injEq] at e
          obtain ⟨rfl, -, rfl⟩ := e
          have HTK := hid (show pushB bs out0 bf (be.take (k + 1)) = pushB bs out0 bf (be.take k) ++ [(((out0.length + k : Nat) : Int), bs, bf + k, be[k])] by
            rw [← List.take_append_getElem hlk, pushB_snoc, List.length_take, Nat.min_eq_left (by omega)])
          generalize be[k] = y at q0 q1 q2 m1 m2 hfv HTK
          obtain ⟨yt, yn, yf⟩ := y
          dsimp only at q0 q1 q2 m1 m2 hfv HTK
          obtain ⟨fa, fc, rfl, -, -⟩ := hfv.slice
          have HFV := hid hfv
          have i2 : (k : Int) < (be.length : Int) := by omega
          have hw2 : IntKind.i64.wrap ((k : Int) + 1) = (k : Int) + 1 := by rw [IntKind.wrap_i64]; omega
          have hw3 : IntKind.i64.wrap (bf + (k : Int)) = bf + (k : Int) := by rw [IntKind.wrap_i64]; omega
          have HM := hid (show bs.size ≤ 9223372036854775807 ∧ yt.size ≤ 9223372036854775807 from ⟨HK.out, m1⟩)
          have HM2 := hid m2
          have HSZ := hid (show w.heap.size ≤ wr.heap.size from hx.size)
          have hgel : ge < w.heap.size := hge2.2
          clear hown hx hkk hx1 hevq hfv hge hge2 m1 m2 d0 b0 b2 b3 hsz hrl
          have hl3 : out0.length + k ≤ 100000 := by omega
          have hlb : -9223372036854775808 ≤ bf + (k : Int) ∧ bf + (k : Int) ≤ 9223372036854775807 := by omega
          have HLB := hid hlb
          have HLEN := hid hlen
          clear hlb hlen
          go_wp2_with fail
          have hxd : Ext wr wr.drew := by (· repeat (first | (with_reducible assumption) | exact Ext.refl _ | refine Ext.alloc ?_ _ | refine Ext.drew ?_ | refine Ext.drewN ?_ _ | (apply Ext.snart; (with_reducible assumption))))
          refine wp_region_L (fun w' => w'.cell? ⟨r, 0, none⟩ = some (.slice (some ⟨gb, ob, none⟩) L.length vc) ∧ w'.cell? ⟨gb, ob + i * 4, none⟩ = some (.string bs) ∧ w'.cell? ⟨gb, ob + i * 4 + 2, none⟩ = some (.int .i64 bf) ∧ w'.cell? ⟨gb, ob + i * 4 + 3, none⟩ = some (.slice (some ⟨ge, oe, none⟩) be.length ec) ∧ w'.cell? ⟨ge, oe + k * 3, none⟩ = some (.string yt) ∧ w'.cell? ⟨ge, oe + k * 3 + 1, none⟩ = some (.int .i64 yn) ∧ w'.cell? ⟨ge, oe + k * 3 + 2, none⟩ = some (.slice fa yf.length fc)) 35 (by kernel_rfl) ⟨Ext.cellS hxd hrow1, Ext.cellS hxd e0, Ext.cellS hxd e2, Ext.cellS hxd e3, Ext.cellS hxd q0, Ext.cellS hxd q1, Ext.cellS hxd q2⟩ (fun hS => ?_)
          (refine wpAnyL_take (i := 0) (v := ?_) rfl (by kernel_rfl) (by kernel_rfl) (by kernel_rfl) (by kernel_rfl) (fun _ _ _ h => h) (Or.inl ⟨by rfl, ?_⟩) (by assumption) ?_; rotate_left; ((intro wS hSw; (try dsimp only at hSw); (try simp only [List.getElem_toArray, List.getElem_cons_zero, List.getElem_cons_succ]); go_simp); (try with_reducible rfl)); (try simp only [Act.put, List.getElem_toArray, List.getElem_cons_zero, List.getElem_cons_succ, List.setIfInBounds_toArray, List.set_cons_zero, List.set_cons_succ]))
          (refine wpAnyL_take (i := 1) (v := ?_) rfl (by kernel_rfl) (by kernel_rfl) (by kernel_rfl) (by kernel_rfl) (fun _ _ _ h => h) (Or.inl ⟨by rfl, ?_⟩) (by assumption) ?_; rotate_left; ((intro wS hSw; (try dsimp only at hSw); (try simp only [List.getElem_toArray, List.getElem_cons_zero, List.getElem_cons_succ]); go_simp); (try with_reducible rfl)); (try simp only [Act.put, List.getElem_toArray, List.getElem_cons_zero, List.getElem_cons_succ, List.setIfInBounds_toArray, List.set_cons_zero, List.set_cons_succ]))
          (refine wpAnyL_take (i := 2) (v := ?_) rfl (by kernel_rfl) (by kernel_rfl) (by kernel_rfl) (by kernel_rfl) (fun _ _ _ h => h) (Or.inl ⟨by rfl, ?_⟩) (by assumption) ?_; rotate_left; ((intro wS hSw; (try dsimp only at hSw); (try simp only [List.getElem_toArray, List.getElem_cons_zero, List.getElem_cons_succ]); go_simp); (try with_reducible rfl)); (try simp only [Act.put, List.getElem_toArray, List.getElem_cons_zero, List.getElem_cons_succ, List.setIfInBounds_toArray, List.set_cons_zero, List.set_cons_succ]))
          (refine wpAnyL_take (i := 3) (v := ?_) rfl (by kernel_rfl) (by kernel_rfl) (by kernel_rfl) (by kernel_rfl) (fun _ _ _ h => h) (Or.inl ⟨by rfl, ?_⟩) (by assumption) ?_; rotate_left; ((intro wS hSw; (try dsimp only at hSw); (try simp only [List.getElem_toArray, List.getElem_cons_zero, List.getElem_cons_succ]); go_simp); (try with_reducible rfl)); (try simp only [Act.put, List.getElem_toArray, List.getElem_cons_zero, List.getElem_cons_succ, List.setIfInBounds_toArray, List.set_cons_zero, List.set_cons_succ]))
          (refine wpAnyL_take (i := 4) (v := ?_) rfl (by kernel_rfl) (by kernel_rfl) (by kernel_rfl) (by kernel_rfl) (fun _ _ _ h => h) (Or.inl ⟨by rfl, ?_⟩) (by assumption) ?_; rotate_left; ((intro wS hSw; (try dsimp only at hSw); (try simp only [List.getElem_toArray, List.getElem_cons_zero, List.getElem_cons_succ]); go_simp); (try with_reducible rfl)); (try simp only [Act.put, List.getElem_toArray, List.getElem_cons_zero, List.getElem_cons_succ, List.setIfInBounds_toArray, List.set_cons_zero, List.set_cons_succ]))
          (refine wpAnyL_take (i := 5) (v := ?_) rfl (by kernel_rfl) (by kernel_rfl) (by kernel_rfl) (by kernel_rfl) (fun _ _ _ h => h) (Or.inl ⟨by rfl, ?_⟩) (by assumption) ?_; rotate_left; ((intro wS hSw; (try dsimp only at hSw); (try simp only [List.getElem_toArray, List.getElem_cons_zero, List.getElem_cons_succ]); go_simp); (try with_reducible rfl)); (try simp only [Act.put, List.getElem_toArray, List.getElem_cons_zero, List.getElem_cons_succ, List.setIfInBounds_toArray, List.set_cons_zero, List.set_cons_succ]))
          (refine wpAnyL_take (i := 6) (v := ?_) rfl (by kernel_rfl) (by kernel_rfl) (by kernel_rfl) (by kernel_rfl) (fun _ _ _ h => h) (Or.inl ⟨by rfl, ?_⟩) (by assumption) ?_; rotate_left; ((intro wS hSw; (try dsimp only at hSw); (try simp only [List.getElem_toArray, List.getElem_cons_zero, List.getElem_cons_succ]); go_simp); (try with_reducible rfl)); (try simp only [Act.put, List.getElem_toArray, List.getElem_cons_zero, List.getElem_cons_succ, List.setIfInBounds_toArray, List.set_cons_zero, List.set_cons_succ]))
          (refine wpAnyL_take (i := 7) (v := ?_) rfl (by kernel_rfl) (by kernel_rfl) (by kernel_rfl) (by kernel_rfl) (fun _ _ _ h => h) (Or.inl ⟨by rfl, ?_⟩) (by assumption) ?_; rotate_left; ((intro wS hSw; (try dsimp only at hSw); (try simp only [List.getElem_toArray, List.getElem_cons_zero, List.getElem_cons_succ]); go_simp); (try with_reducible rfl)); (try simp only [Act.put, List.getElem_toArray, List.getElem_cons_zero, List.getElem_cons_succ, List.setIfInBounds_toArray, List.set_cons_zero, List.set_cons_succ]))
          (refine wpAnyL_take (i := 8) (v := ?_) rfl (by kernel_rfl) (by kernel_rfl) (by kernel_rfl) (by kernel_rfl) (fun _ _ _ h => h) (Or.inl ⟨by rfl, ?_⟩) (by assumption) ?_; rotate_left; ((intro wS hSw; (try dsimp only at hSw); (try simp only [List.getElem_toArray, List.getElem_cons_zero, List.getElem_cons_succ]); go_simp); (try with_reducible rfl)); (try simp only [Act.put, List.getElem_toArray, List.getElem_cons_zero, List.getElem_cons_succ, List.setIfInBounds_toArray, List.set_cons_zero, List.set_cons_succ]))
          (refine wpAnyL_take (i := 9) (v := ?_) rfl (by kernel_rfl) (by kernel_rfl) (by kernel_rfl) (by kernel_rfl) (fun _ _ _ h => h) (Or.inl ⟨by rfl, ?_⟩) (by assumption) ?_; rotate_left; ((intro wS hSw; (try dsimp only at hSw); (try simp only [List.getElem_toArray, List.getElem_cons_zero, List.getElem_cons_succ]); go_simp); (try with_reducible rfl)); (try simp only [Act.put, List.getElem_toArray, List.getElem_cons_zero, List.getElem_cons_succ, List.setIfInBounds_toArray, List.set_cons_zero, List.set_cons_succ]))
          (refine wpAnyL_take (i := 10) (v := ?_) rfl (by kernel_rfl) (by kernel_rfl) (by kernel_rfl) (by kernel_rfl) (fun _ _ _ h => h) (Or.inl ⟨by rfl, ?_⟩) (by assumption) ?_; rotate_left; ((intro wS hSw; (try dsimp only at hSw); (try simp only [List.getElem_toArray, List.getElem_cons_zero, List.getElem_cons_succ]); go_simp); (try with_reducible rfl)); (try simp only [Act.put, List.getElem_toArray, List.getElem_cons_zero, List.getElem_cons_succ, List.setIfInBounds_toArray, List.set_cons_zero, List.set_cons_succ]))
          (refine wpAnyL_take (i := 11) (v := ?_) rfl (by kernel_rfl) (by kernel_rfl) (by kernel_rfl) (by kernel_rfl) (fun _ _ _ h => h) (Or.inl ⟨by rfl, ?_⟩) (by assumption) ?_; rotate_left; ((intro wS hSw; (try dsimp only at hSw); (try simp only [List.getElem_toArray, List.getElem_cons_zero, List.getElem_cons_succ]); go_simp); (try with_reducible rfl)); (try simp only [Act.put, List.getElem_toArray, List.getElem_cons_zero, List.getElem_cons_succ, List.setIfInBounds_toArray, List.set_cons_zero, List.set_cons_succ]))
          (refine wpAnyL_take (i := 12) (v := ?_) rfl (by kernel_rfl) (by kernel_rfl) (by kernel_rfl) (by kernel_rfl) (fun _ _ _ h => h) (Or.inl ⟨by rfl, ?_⟩) (by assumption) ?_; rotate_left; ((intro wS hSw; (try dsimp only at hSw); (try simp only [List.getElem_toArray, List.getElem_cons_zero, List.getElem_cons_succ]); go_simp); (try with_reducible rfl)); (try simp only [Act.put, List.getElem_toArray, List.getElem_cons_zero, List.getElem_cons_succ, List.setIfInBounds_toArray, List.set_cons_zero, List.set_cons_succ]))
          (refine wpAnyL_take (i := 13) (v := ?_) rfl (by kernel_rfl) (by kernel_rfl) (by kernel_rfl) (by kernel_rfl) (fun _ _ _ h => h) (Or.inl ⟨by rfl, ?_⟩) (by assumption) ?_; rotate_left; ((intro wS hSw; (try dsimp only at hSw); (try simp only [List.getElem_toArray, List.getElem_cons_zero, List.getElem_cons_succ]); go_simp); (try with_reducible rfl)); (try simp only [Act.put, List.getElem_toArray, List.getElem_cons_zero, List.getElem_cons_succ, List.setIfInBounds_toArray, List.set_cons_zero, List.set_cons_succ]))
          (refine wpAnyL_take (i := 14) (v := ?_) rfl (by kernel_rfl) (by kernel_rfl) (by kernel_rfl) (by kernel_rfl) (fun _ _ _ h => h) (Or.inl ⟨by rfl, ?_⟩) (by assumption) ?_; rotate_left; ((intro wS hSw; (try dsimp only at hSw); (try simp only [List.getElem_toArray, List.getElem_cons_zero, List.getElem_cons_succ]); go_simp); (try with_reducible rfl)); (try simp only [Act.put, List.getElem_toArray, List.getElem_cons_zero, List.getElem_cons_succ, List.setIfInBounds_toArray, List.set_cons_zero, List.set_cons_succ]))
          (refine wpAnyL_take (i := 15) (v := ?_) rfl (by kernel_rfl) (by kernel_rfl) (by kernel_rfl) (by kernel_rfl) (fun _ _ _ h => h) (Or.inl ⟨by rfl, ?_⟩) (by assumption) ?_; rotate_left; ((intro wS hSw; (try dsimp only at hSw); (try simp only [List.getElem_toArray, List.getElem_cons_zero, List.getElem_cons_succ]); go_simp); (try with_reducible rfl)); (try simp only [Act.put, List.getElem_toArray, List.getElem_cons_zero, List.getElem_cons_succ, List.setIfInBounds_toArray, List.set_cons_zero, List.set_cons_succ]))
          (refine wpAnyL_take (i := 16) (v := ?_) rfl (by kernel_rfl) (by kernel_rfl) (by kernel_rfl) (by kernel_rfl) (fun _ _ _ h => h) (Or.inl ⟨by rfl, ?_⟩) (by assumption) ?_; rotate_left; ((intro wS hSw; (try dsimp only at hSw); (try simp only [List.getElem_toArray, List.getElem_cons_zero, List.getElem_cons_succ]); go_simp); (try with_reducible rfl)); (try simp only [Act.put, List.getElem_toArray, List.getElem_cons_zero, List.getElem_cons_succ, List.setIfInBounds_toArray, List.set_cons_zero, List.set_cons_succ]))
          (refine wpAnyL_take (i := 17) (v := ?_) rfl (by kernel_rfl) (by kernel_rfl) (by kernel_rfl) (by kernel_rfl) (fun _ _ _ h => h) (Or.inl ⟨by rfl, ?_⟩) (by assumption) ?_; rotate_left; ((intro wS hSw; (try dsimp only at hSw); (try simp only [List.getElem_toArray, List.getElem_cons_zero, List.getElem_cons_succ]); go_simp); (try with_reducible rfl)); (try simp only [Act.put, List.getElem_toArray, List.getElem_cons_zero, List.getElem_cons_succ, List.setIfInBounds_toArray, List.set_cons_zero, List.set_cons_succ]))
          (refine wpAnyL_take (i := 18) (v := ?_) rfl (by kernel_rfl) (by kernel_rfl) (by kernel_rfl) (by kernel_rfl) (fun _ _ _ h => h) (Or.inl ⟨by rfl, ?_⟩) (by assumption) ?_; rotate_left; ((intro wS hSw; (try dsimp only at hSw); (try simp only [List.getElem_toArray, List.getElem_cons_zero, List.getElem_cons_succ]); go_simp); (try with_reducible rfl)); (try simp only [Act.put, List.getElem_toArray, List.getElem_cons_zero, List.getElem_cons_succ, List.setIfInBounds_toArray, List.set_cons_zero, List.set_cons_succ]))
          (refine wpAnyL_take (i := 19) (v := ?_) rfl (by kernel_rfl) (by kernel_rfl) (by kernel_rfl) (by kernel_rfl) (fun _ _ _ h => h) (Or.inl ⟨by rfl, ?_⟩) (by assumption) ?_; rotate_left; ((intro wS hSw; (try dsimp only at hSw); (try simp only [List.getElem_toArray, List.getElem_cons_zero, List.getElem_cons_succ]); go_simp); (try with_reducible rfl)); (try simp only [Act.put, List.getElem_toArray, List.getElem_cons_zero, List.getElem_cons_succ, List.setIfInBounds_toArray, List.set_cons_zero, List.set_cons_succ]))
          (refine wpAnyL_take (i := 20) (v := ?_) rfl (by kernel_rfl) (by kernel_rfl) (by kernel_rfl) (by kernel_rfl) (fun _ _ _ h => h) (Or.inl ⟨by rfl, ?_⟩) (by assumption) ?_; rotate_left; ((intro wS hSw; (try dsimp only at hSw); (try simp only [List.getElem_toArray, List.getElem_cons_zero, List.getElem_cons_succ]); go_simp); (try with_reducible rfl)); (try simp only [Act.put, List.getElem_toArray, List.getElem_cons_zero, List.getElem_cons_succ, List.setIfInBounds_toArray, List.set_cons_zero, List.set_cons_succ]))
          (refine wpAnyL_take (i := 21) (v := ?_) rfl (by kernel_rfl) (by kernel_rfl) (by kernel_rfl) (by kernel_rfl) (fun _ _ _ h => h) (Or.inl ⟨by rfl, ?_⟩) (by assumption) ?_; rotate_left; ((intro wS hSw; (try dsimp only at hSw); (try simp only [List.getElem_toArray, List.getElem_cons_zero, List.getElem_cons_succ]); go_simp); (try with_reducible rfl)); (try simp only [Act.put, List.getElem_toArray, List.getElem_cons_zero, List.getElem_cons_succ, List.setIfInBounds_toArray, List.set_cons_zero, List.set_cons_succ]))
          (refine wpAnyL_take (i := 22) (v := ?_) rfl (by kernel_rfl) (by kernel_rfl) (by kernel_rfl) (by kernel_rfl) (fun _ _ _ h => h) (Or.inl ⟨by rfl, ?_⟩) (by assumption) ?_; rotate_left; ((intro wS hSw; (try dsimp only at hSw); (try simp only [List.getElem_toArray, List.getElem_cons_zero, List.getElem_cons_succ]); go_simp); (try with_reducible rfl)); (try simp only [Act.put, List.getElem_toArray, List.getElem_cons_zero, List.getElem_cons_succ, List.setIfInBounds_toArray, List.set_cons_zero, List.set_cons_succ]))
          (refine wpAnyL_take (i := 23) (v := ?_) rfl (by kernel_rfl) (by kernel_rfl) (by kernel_rfl) (by kernel_rfl) (fun _ _ _ h => h) (Or.inl ⟨by rfl, ?_⟩) (by assumption) ?_; rotate_left; ((intro wS hSw; (try dsimp only at hSw); (try simp only [List.getElem_toArray, List.getElem_cons_zero, List.getElem_cons_succ]); go_simp); (try with_reducible rfl)); (try simp only [Act.put, List.getElem_toArray, List.getElem_cons_zero, List.getElem_cons_succ, List.setIfInBounds_toArray, List.set_cons_zero, List.set_cons_succ]))
          (refine wpAnyL_take (i := 24) (v := ?_) rfl (by kernel_rfl) (by kernel_rfl) (by kernel_rfl) (by kernel_rfl) (fun _ _ _ h => h) (Or.inl ⟨by rfl, ?_⟩) (by assumption) ?_; rotate_left; ((intro wS hSw; (try dsimp only at hSw); (try simp only [List.getElem_toArray, List.getElem_cons_zero, List.getElem_cons_succ]); go_simp); (try with_reducible rfl)); (try simp only [Act.put, List.getElem_toArray, List.getElem_cons_zero, List.getElem_cons_succ, List.setIfInBounds_toArray, List.set_cons_zero, List.set_cons_succ]))
          (refine wpAnyL_take (i := 25) (v := ?_) rfl (by kernel_rfl) (by kernel_rfl) (by kernel_rfl) (by kernel_rfl) (fun _ _ _ h => h) (Or.inl ⟨by rfl, ?_⟩) (by assumption) ?_; rotate_left; ((intro wS hSw; (try dsimp only at hSw); (try simp only [List.getElem_toArray, List.getElem_cons_zero, List.getElem_cons_succ]); go_simp); (try with_reducible rfl)); (try simp only [Act.put, List.getElem_toArray, List.getElem_cons_zero, List.getElem_cons_succ, List.setIfInBounds_toArray, List.set_cons_zero, List.set_cons_succ]))
          (refine wpAnyL_take (i := 26) (v := ?_) rfl (by kernel_rfl) (by kernel_rfl) (by kernel_rfl) (by kernel_rfl) (fun _ _ _ h => h) (Or.inl ⟨by rfl, ?_⟩) (by assumption) ?_; rotate_left; ((intro wS hSw; (try dsimp only at hSw); (try simp only [List.getElem_toArray, List.getElem_cons_zero, List.getElem_cons_succ]); go_simp); (try with_reducible rfl)); (try simp only [Act.put, List.getElem_toArray, List.getElem_cons_zero, List.getElem_cons_succ, List.setIfInBounds_toArray, List.set_cons_zero, List.set_cons_succ]))
          (refine wpAnyL_take (i := 27) (v := ?_) rfl (by kernel_rfl) (by kernel_rfl) (by kernel_rfl) (by kernel_rfl) (fun _ _ _ h => h) (Or.inl ⟨by rfl, ?_⟩) (by assumption) ?_; rotate_left; ((intro wS hSw; (try dsimp only at hSw); (try simp only [List.getElem_toArray, List.getElem_cons_zero, List.getElem_cons_succ]); go_simp); (try with_reducible rfl)); (try simp only [Act.put, List.getElem_toArray, List.getElem_cons_zero, List.getElem_cons_succ, List.setIfInBounds_toArray, List.set_cons_zero, List.set_cons_succ]))
          (refine wpAnyL_take (i := 28) (v := ?_) rfl (by kernel_rfl) (by kernel_rfl) (by kernel_rfl) (by kernel_rfl) (fun _ _ _ h => h) (Or.inl ⟨by rfl, ?_⟩) (by assumption) ?_; rotate_left; ((intro wS hSw; (try dsimp only at hSw); (try simp only [List.getElem_toArray, List.getElem_cons_zero, List.getElem_cons_succ]); go_simp); (try with_reducible rfl)); (try simp only [Act.put, List.getElem_toArray, List.getElem_cons_zero, List.getElem_cons_succ, List.setIfInBounds_toArray, List.set_cons_zero, List.set_cons_succ]))
          (refine wpAnyL_take (i := 29) (v := ?_) rfl (by kernel_rfl) (by kernel_rfl) (by kernel_rfl) (by kernel_rfl) (fun _ _ _ h => h) (Or.inl ⟨by rfl, ?_⟩) (by assumption) ?_; rotate_left; ((intro wS hSw; (try dsimp only at hSw); (try simp only [List.getElem_toArray, List.getElem_cons_zero, List.getElem_cons_succ]); go_simp); (try with_reducible rfl)); (try simp only [Act.put, List.getElem_toArray, List.getElem_cons_zero, List.getElem_cons_succ, List.setIfInBounds_toArray, List.set_cons_zero, List.set_cons_succ]))
          (refine wpAnyL_take (i := 30) (v := ?_) rfl (by kernel_rfl) (by kernel_rfl) (by kernel_rfl) (by kernel_rfl) (fun _ _ _ h => h) (Or.inl ⟨by rfl, ?_⟩) (by assumption) ?_; rotate_left; ((intro wS hSw; (try dsimp only at hSw); (try simp only [List.getElem_toArray, List.getElem_cons_zero, List.getElem_cons_succ]); go_simp); (try with_reducible rfl)); (try simp only [Act.put, List.getElem_toArray, List.getElem_cons_zero, List.getElem_cons_succ, List.setIfInBounds_toArray, List.set_cons_zero, List.set_cons_succ]))
          (refine wpAnyL_take (i := 31) (v := ?_) rfl (by kernel_rfl) (by kernel_rfl) (by kernel_rfl) (by kernel_rfl) (fun _ _ _ h => h) (Or.inl ⟨by rfl, ?_⟩) (by assumption) ?_; rotate_left; ((intro wS hSw; (try dsimp only at hSw); (try simp only [List.getElem_toArray, List.getElem_cons_zero, List.getElem_cons_succ]); go_simp); (try with_reducible rfl)); (try simp only [Act.put, List.getElem_toArray, List.getElem_cons_zero, List.getElem_cons_succ, List.setIfInBounds_toArray, List.set_cons_zero, List.set_cons_succ]))
          (refine wpAnyL_take (i := 32) (v := ?_) rfl (by kernel_rfl) (by kernel_rfl) (by kernel_rfl) (by kernel_rfl) (fun _ _ _ h => h) (Or.inl ⟨by rfl, ?_⟩) (by assumption) ?_; rotate_left; ((intro wS hSw; (try dsimp only at hSw); (try simp only [List.getElem_toArray, List.getElem_cons_zero, List.getElem_cons_succ]); go_simp); (try with_reducible rfl)); (try simp only [Act.put, List.getElem_toArray, List.getElem_cons_zero, List.getElem_cons_succ, List.setIfInBounds_toArray, List.set_cons_zero, List.set_cons_succ]))
          (refine wpAnyL_one (i := 33) (by kernel_rfl) rfl (fun K hK => ?_))
          go_simp
          have hxA : Ext wr (wr.alloc (.cells #[.int .i64 ((out0.length : Int) + (k : Int)), .string bs, .int .i64 (bf + (k : Int)), .string yt, .int .i64 yn, .slice fa yf.length fc] 71)).drew := by (· repeat (first | (with_reducible assumption) | exact Ext.refl _ | refine Ext.alloc ?_ _ | refine Ext.drew ?_ | refine Ext.drewN ?_ _ | (apply Ext.snart; (with_reducible assumption))))
          (refine hK.out _ _ (fun _ => ⟨Ext.cellS hxA hrow1, Ext.cellS hxA e0, Ext.cellS hxA e2, Ext.cellS hxA e3, Ext.cellS hxA q0, Ext.cellS hxA q1, Ext.cellS hxA q2⟩) (fun hS => ?_); clear hK K)
          have hS := hS (by decide)
          have hnr : (wr.alloc (.cells #[.int .i64 ((out0.length : Int) + (k : Int)), .string bs, .int .i64 (bf + (k : Int)), .string yt, .int .i64 yn, .slice fa yf.length fc] 71)).drew.heap[wr.heap.size]? = some _ := heap_alloc_new wr (.cells #[.int .i64 ((out0.length : Int) + (k : Int)), .string bs, .int .i64 (bf + (k : Int)), .string yt, .int .i64 yn, .slice fa yf.length fc] 71)
          obtain ⟨wa, hwa⟩ : ∃ wa, wa = (wr.alloc (.cells #[.int .i64 ((out0.length : Int) + (k : Int)), .string bs, .int .i64 (bf + (k : Int)), .string yt, .int .i64 yn, .slice fa yf.length fc] 71)).drew := ⟨_, rfl⟩
          rw [← hwa] at hxA hS hnr ⊢
          have HNR := hid hnr
          have HXA := hid hxA
          clear hwa hnr
          (refine wpAnyL_one (i := 34) (by kernel_rfl) rfl (fun K hK => ?_))
          refine step_app1 rEnt rfl _ _ _ _ _ 80 rfl Try.underlying49 infoEnt1 rfl w.heap.size (fun k => U k ∧ k < w.heap.size) (Nat.le_trans HSZ.out HXA.out.size) _ _ rfl (HOW.out.ext HXA.out) [.int .i64 ((out0.length : Int) + (k : Int)), .string bs, .int .i64 (bf + (k : Int)), .string yt, .int .i64 yn, .slice fa yf.length fc] ((out0.length : Int) + (k : Int), bs, bf + (k : Int), yt, yn, yf) (rEnt_mk (by omega) HM.out.1 HLB.out HM.out.2 HM2.out (HFV.out.ext HXA.out)) _ rfl HNR.out (fun k hk => Nat.lt_of_lt_of_le hk.2 (Nat.le_trans HSZ.out HXA.out.size)) (by rw [HLEN.out]; omega) (by rw [HLEN.out]; omega) ?_
          intro v6 w6 k1 k2 k3
          have hk6 : Keep (fun k => k < w.heap.size) wa w6 := (keep_grown k2).mono fun k hk _ e => by have := (HOW.out.lt k e.symm).1; omega
          have hz6 := hk6.size
          have hrl : r < w.heap.size := World.block_lt_of_cell? _ _ c0
          have s0 := hk6.cell hS.1 hrl
          have s1 := hk6.cell hS.2.1 hgbl
          have s2 := hk6.cell hS.2.2.1 hgbl
          have s3 := hk6.cell hS.2.2.2.1 hgbl
          have s4 := hk6.cell hS.2.2.2.2.1 hgel
          have s5 := hk6.cell hS.2.2.2.2.2.1 hgel
          have s6 := hk6.cell hS.2.2.2.2.2.2 hgel
          have e6 : pushB bs out0 bf (List.take k be) ++ [((out0.length : Int) + (k : Int), bs, bf + (k : Int), yt, yn, yf)] = pushB bs out0 bf (be.take (k + 1)) := by rw [HTK.out]; congr 3; try omega
          rw [e6] at k1
          have K1 := hid k1
          have HK6 := hid ((HKK.out.trans (HXA.out.keep _)).trans hk6)
          have HX6 := hid (Keep.ext ((((HXQ.out.trans HXA.out).keep (fun k => k < w.heap.size)).trans hk6).mono fun k _ hl => hl))
          obtain ⟨va6, vc6, hv6⟩ := k1.slice
          rw [pushB_len, List.length_take, Nat.min_eq_left (by omega)] at hv6
          subst hv6
          clear k1 k2 k3 hk6 hz6 e6
          (refine hK.out _ _ (fun _ => ⟨s0, s1, s2, s3, s4, s5, s6⟩) (fun hS => ?_); clear hK K)
          clear hS
          (refine wpAnyL_one (i := 35) (by kernel_rfl) rfl (fun K hK => ?_))
          go_simp
          (refine hK.out _ _ (fun h => absurd rfl h) (fun _ => ?_); clear hK K; refine wpAnyL_done (by kernel_rfl) ?_ _)
          refine NoPanic.normal ?_
          clear s0 s1 s2 s3 s4 s5 s6 hxA hxd
          go_wp2_with fail
          exact ⟨⟨k + 1, rfl, by omega, K1.out, HX6.out, HK6.out⟩, by simp only [intOf]; omega⟩
        · obtain rfl : k = be.length := by omega
          have i2 : ¬ (be.length : Int) < (be.length : Int) := by omega
          have e3 : wr.cell? ⟨gb, ob + i * 4 + 3, none⟩ = some (.slice ea be.length ec) := hx1 _ _ _ (by
            obtain ⟨_, _, _, _, e, hg, _⟩ := HRD.out.atBat i (by omega)
            simp only [Value.slice.injEq, Option.some.injEq, Addr.mk.injEq] at e
            omega) b3
          rw [List.take_length, ← HEN.out] at HOW
          clear hown hx hkk hx1 hlen d0 b0 b2 b3
          go_wp2_with fail
          exact ⟨⟨i + 1, rfl, by omega, HOW.out, HXQ.out⟩, by simp only [intOf]; omega⟩
    · obtain rfl : i = L.length := by omega
      have i1 : ¬ (L.length : Int) < (L.length : Int) := by omega
      rw [List.take_length] at HO
      clear hx0
      go_wp2_with fail
      go_ret
      exact ⟨_, rfl, _, HO.out, fun k hk => hk, HX.out⟩
end Go.Proofs.Ythobhkmphjnlaaa

/- The document's Index: Of, Keyed. -/
namespace Go.Proofs.Ythobhkmphjnlaaa
open Go.RowKit Go.Maps
set_option linter.unusedVariables false
set_option linter.unusedSimpArgs false

/-- append of one element -/
theorem wl_app1 {α : Type} (r : Rdr α) {w : World} {ops : Array Oper} {rest : List Oper} {o : Oper} {a : Act} {Q : Exit → Act → World → Prop} (hgd : o.guard = none) (s x : Operand) (tl te : TypeId) (z : Value) (bytes : Nat)
    (ho : o.op = .call { callee := .builtin .append, args := #[s, x], argTypes := #[tl, tl] }) (hts : Try.prog.underlying tl = some (.slice te)) (hinfo : (Try.prog.info? te).map (fun i => (i.zero, i.size, i.bytes)) = some (some z, r.size, bytes)) (hzs : z.cells.size = r.size)
    (B : Nat) (S : Nat → Prop) (hB : B ≤ w.heap.size) (v : Value) (xs : List α) (hs : a.eval s = v) (happ : OwnS r te w B S v xs)
    (cs : List Value) (y : α) (hrd : r.rd w S cs y) (gb : Nat) (hx : a.eval x = .slice (some ⟨gb, 0, none⟩) 1 1) (hrow : w.heap[gb]? = some (.cells cs.toArray te (0, 0))) (hSlt : ∀ k, S k → k < w.heap.size) (hb : (xs.length + 1) * bytes ≤ 140737488355328) (hl : xs.length + 1 ≤ 9223372036854775807)
    (h : ∀ v' w', OwnS r te w' B S v' (xs ++ [y]) → w.grownBy w' v.ownBlock → (∀ k, v'.ownBlock = some k → v.ownBlock = some k ∨ w.heap.size ≤ k) → wpList Try.prog ops Q rest (a.put o.dst v') w') : wpList Try.prog ops Q (o :: rest) a w := by
  refine wpList_plain hgd fun _ hK => wp_appS r s x tl tl te z bytes ho hts hinfo hzs B S v xs hs happ _ [(cs, y)] hx ?_ ?_ hSlt (by simpa using hb) (by simpa using hl) hB ?_
  · have := src_row hts hrow (r.one hrd) (by rw [r.len hrd, Nat.one_mul])
    simpa [cellsOf] using this
  · intro p hp
    obtain rfl := List.mem_singleton.1 hp
    exact hrd
  · intro v' w' k1 k2 k3
    exact hK _ _ (h v' w' k1 k2 k3)
theorem OwnS.at {α : Type} {r : Rdr α} {t : TypeId} {w : World} {base : Nat} {S : Nat → Prop} {v : Value} {xs : List α} (h : OwnS r t w base S v xs) (i : Nat) (hi : i < xs.length) :
    ∃ g o cap cs, v = .slice (some ⟨g, o, none⟩) xs.length cap ∧ g < w.heap.size ∧ cs.length = r.size ∧ (∀ j u, cs[j]? = some u → w.cell? ⟨g, o + (i * r.size + j), none⟩ = some u) ∧ r.rd w S cs xs[i] := by
  obtain ⟨gs, rfl, h1, h2, h3⟩ := h
  obtain ⟨a, cap, rfl, h4, h5, h6, h7⟩ := rd_of_own h1
  rw [List.length_map] at hi
  obtain ⟨g, o, rfl, hg, hc⟩ := h7 (by omega)
  have hlen : ∀ p ∈ gs, p.1.length = r.size := fun p hp' => r.len (h3 p hp')
  have hmem := List.getElem_mem hi
  refine ⟨g, o, cap, gs[i].1, by rw [List.length_map], hg, hlen _ hmem, fun j u hu => ?_, by rw [List.getElem_map]; exact h3 _ hmem⟩
  have hj : j < r.size := by rw [← hlen _ hmem]; exact (List.getElem?_eq_some_iff.1 hu).1
  rw [hc _ ?_, cellsOf_get gs r.size hlen i hi j hj, hu]
  have : (i + 1) * r.size ≤ gs.length * r.size := Nat.mul_le_mul_right _ hi
  rw [Nat.add_mul] at this; omega
theorem OwnS.atEnt {t : TypeId} {w : World} {base : Nat} {S : Nat → Prop} {v : Value} {es : List Ent} (h : OwnS rEnt t w base S v es) (i : Nat) (hi : i < es.length) :
    ∃ g o cap fv, v = .slice (some ⟨g, o, none⟩) es.length cap ∧ g < w.heap.size ∧ w.cell? ⟨g, o + i * 6, none⟩ = some (.int .i64 es[i].1) ∧ w.cell? ⟨g, o + i * 6 + 1, none⟩ = some (.string es[i].2.1) ∧ w.cell? ⟨g, o + i * 6 + 2, none⟩ = some (.int .i64 es[i].2.2.1) ∧
      w.cell? ⟨g, o + i * 6 + 3, none⟩ = some (.string es[i].2.2.2.1) ∧ w.cell? ⟨g, o + i * 6 + 4, none⟩ = some (.int .i64 es[i].2.2.2.2.1) ∧ w.cell? ⟨g, o + i * 6 + 5, none⟩ = some fv ∧ rEnt.rd w S [.int .i64 es[i].1, .string es[i].2.1, .int .i64 es[i].2.2.1, .string es[i].2.2.2.1, .int .i64 es[i].2.2.2.2.1, fv] es[i] ∧ RdS rF w S fv es[i].2.2.2.2.2 := by
  obtain ⟨g, o, cap, cs, rfl, hg, _, hc, hr⟩ := h.at i hi
  obtain ⟨fv, rfl, h3⟩ := rEnt_cells hr
  refine ⟨g, o, cap, fv, rfl, hg, hc 0 _ rfl, ?_, ?_, ?_, ?_, ?_, hr, h3⟩
  · have := hc 1 _ rfl; rw [Nat.add_assoc]; exact this
  · have := hc 2 _ rfl; rw [Nat.add_assoc]; exact this
  · have := hc 3 _ rfl; rw [Nat.add_assoc]; exact this
  · have := hc 4 _ rfl; rw [Nat.add_assoc]; exact this
  · have := hc 5 _ rfl; rw [Nat.add_assoc]; exact this
theorem ofF_take (out : List Ent) (s : ByteArray) (i : Nat) (hi : i < out.length) : ofF (out.take (i + 1)) s = if out[i].2.1 = s then ofF (out.take i) s ++ [out[i]] else ofF (out.take i) s := by
  rw [← List.take_append_getElem hi, ofF_snoc]
theorem ofF_len (out : List Ent) (s : ByteArray) : (ofF out s).length ≤ out.length := List.length_filter_le _ _

set_option maxRecDepth 100000 in
set_option maxHeartbeats 4000000 in
theorem ROf_any (w : World) (U : Nat → Prop) (r : Nat) (L : List Bat) (h : RIx U w r L) (hN : evN L ≤ 100000) (hL : L.length ≤ 100000) (hb : BOk L) (s : ByteArray) (hs : s.size ≤ 9223372036854775807) :
    Calls Try.prog 80 #[.pointer (some ⟨r, 0, none⟩), .string s] w fun e w' => ∃ v, e = .returned v ∧ ∃ S', OwnS rEnt 71 w' w.heap.size S' v (ofF (entsF L) s) ∧ (∀ k, S' k → U k ∧ k < w.heap.size) ∧ Ext w w' := by
  have H := hid h
  have HB := hid hb
  clear h hb
  go_enter Try.func80, Try.ntmps80
  go_wp2_with fail
  refine (REntries_any w U r L H.out hN hL HB.out).mono ?_
  rintro e w1 ⟨v1, S1, rfl, ho1, hS1, hx1⟩
  have hlen : (entsF L).length ≤ 100000 := hN
  obtain ⟨out, hout⟩ : ∃ out, entsF L = out := ⟨_, rfl⟩
  rw [hout] at ho1 hlen
  have HOUT := hid hout
  clear hout
  obtain ⟨oa, oc, rfl⟩ := ho1.slice
  have HO := hid (ho1.widen (S' := fun k => U k ∧ k < w.heap.size) (fun k hk _ => hS1 k hk) fun k hk e => by have := (ho1.lt k hk).1; omega)
  have HX1 := hid hx1
  have HS := hid hs
  clear ho1 hS1 hx1 hs
  go_wp2_with fail
  go_loopw [5, 7] (fun u5 u7 wr => ∃ i : Nat, u7 = .int .i64 i ∧ i ≤ out.length ∧ OwnS rEnt 71 wr w1.heap.size (fun k => U k ∧ k < w.heap.size) u5 (ofF (out.take i) s) ∧ Ext w1 wr) (fun _ u7 _ => out.length - (intOf u7).toNat)
  case atStart => exact ⟨0, rfl, Nat.zero_le _, OwnS.nil _ _ _ _ _, Ext.refl _⟩
  case round =>
    obtain ⟨i, rfl, hi, hown, hx⟩ := hrel
    have HW := hid hown
    have HX := hid hx
    have hle := ofF_len (out.take i) s
    rw [List.length_take] at hle
    obtain ⟨ua, uc, hu⟩ := hown.slice
    subst hu
    by_cases hlt : i < out.length
    · obtain ⟨g, o, cap, fv, e, hg, b0, b1, b2, b3, b4, b5, hrd, hf⟩ := (HO.out.ext hx).atEnt i hlt
      simp only [Value.slice.injEq] at e
      obtain ⟨rfl, -, rfl⟩ := e
      have HT := hid (ofF_take out s i hlt)
      generalize out[i] = y at b0 b1 b2 b3 b4 b5 hrd hf HT
      obtain ⟨yp, ys, yn, yt, yv, yf⟩ := y
      dsimp only at b0 b1 b2 b3 b4 b5 hrd hf HT
      obtain ⟨fa, fc, rfl, -, -⟩ := hf.slice
      have HRD := hid hrd
      have i1 : (i : Int) < (out.length : Int) := by omega
      have hw1 : IntKind.i64.wrap ((i : Int) + 1) = (i : Int) + 1 := by rw [IntKind.wrap_i64]; omega
      have HSZ := hid (show w.heap.size ≤ wr.heap.size from Nat.le_trans HX1.out.size hx.size)
      have hxs := hx.size
      obtain ⟨N, hN'⟩ : ∃ N, (ofF (out.take i) s).length = N := ⟨_, rfl⟩
      have HNN := hid hN'
      rw [hN'] at hle ⊢
      have HW := hid (hN' ▸ HW.out)
      clear hown hx hrd hf hN'
      by_cases hq : ys = s
      · subst hq
        have e1 := str_tt (a := ys) rfl
        have HT2 := hid (HT.out.trans (if_pos rfl))
        clear HT
        go_wp2_with (at_builtin; go_must (refine wl_app1 rEnt rfl _ _ _ _ _ 80 rfl Try.underlying49 infoEnt1 rfl w1.heap.size (fun k => U k ∧ k < w.heap.size) ?_ _ _ rfl (HW.out.ext ((Ext.refl wr).alloc _)) _ (yp, ys, yn, yt, yv, yf) (Rdr.ext HRD.out ((Ext.refl wr).alloc _)) _ rfl (heap_alloc_new _ _) ?_ ?_ ?_ ?_; (simp only [heap_alloc_sz]; omega); (intro k hk; have := HSZ.out; simp only [heap_alloc_sz]; omega); (rw [HNN.out]; omega); (rw [HNN.out]; omega); intro v6 w6 k1 k2 k3))
        rw [← HT2.out] at k1
        obtain ⟨va6, vc6, hv6⟩ := k1.slice
        subst hv6
        have hx6 : Ext w1 w6 := Keep.ext ((((HX.out.alloc _).keep (fun k => k < w1.heap.size)).trans ((keep_grown k2).mono fun k hk _ e => by have := (HW.out.lt k e.symm).1; omega)).mono fun k _ hl => hl)
        have HX6 := hid hx6
        have K1 := hid k1
        clear k1 k2 k3 hx6
        go_wp2_with fail
        exact ⟨⟨i + 1, rfl, by omega, K1.out, HX6.out⟩, by simp only [intOf]; omega⟩
      · have e1 := str_ff hq
        have HT2 := hid (HT.out.trans (if_neg hq))
        clear HT
        go_wp2_with fail
        exact ⟨⟨i + 1, rfl, by omega, by rw [HT2.out]; exact HW.out, HX.out⟩, by simp only [intOf]; omega⟩
    · obtain rfl : i = out.length := by omega
      have i1 : ¬ (out.length : Int) < (out.length : Int) := by omega
      rw [List.take_length] at HW ⊢
      clear hown hx
      go_wp2_with fail
      go_ret
      exact ⟨_, rfl, _, by rw [HOUT.out]; exact HW.out.low HX1.out.size, fun k hk => hk, HX1.out.trans HX.out⟩

theorem nil_toList : (⟨#[]⟩ : ByteArray).toList = [] := by first | rfl | decide | simp
theorem str_nn {a : ByteArray} (h : a ≠ ⟨#[]⟩) : ¬ a.toList = [] := fun e => by
  have h1 := str_ff h
  rw [e, nil_toList] at h1
  simp at h1
theorem str_nem {a : ByteArray} (h : a ≠ ⟨#[]⟩) : (!a.toList.isEmpty) = true := by
  have := str_nn h
  cases hh : a.toList with
  | nil => exact absurd hh this
  | cons x l => rfl
theorem set4 {w : World} {g : Nat} {a b c d v0 v1 v2 v3 : Value} {t : TypeId} (h : w.heap[g]? = some (.cells #[a, b, c, d] t (0, 0))) :
    (((((w.setCell ⟨g, 0, none⟩ v0).setCell ⟨g, 1, none⟩ v1).setCell ⟨g, 2, none⟩ v2).setCell ⟨g, 3, none⟩ v3).heap[g]? = some (.cells #[v0, v1, v2, v3] t (0, 0))) :=
  set_blk (o := 3) (set_blk (o := 2) (set_blk (o := 1) (set_blk (o := 0) h v0) v1) v2) v3
theorem keyR_take (k : ByteArray) (L : List Bat) (i : Nat) (hi : i < L.length) (h : (keyR k (L.take i) 0).2.2 = false) :
    keyR k (L.take (i + 1)) 0 = if k ≠ ⟨#[]⟩ ∧ L[i].2.1 = k then (L[i].1, (L[i].2.2.1, (sumN (L.take i) : Int), (L[i].2.2.2.length : Int), false), true) else (⟨#[]⟩, app0, false) := by
  rw [← List.take_append_getElem hi, keyR_snoc, if_neg (by simp [h]), Int.zero_add]
theorem keyR_more (k : ByteArray) : ∀ (a b : List Bat) (p : Int), (keyR k a p).2.2 = true → keyR k (a ++ b) p = keyR k a p
  | [], b, p, h => by simp [keyR] at h
  | c :: a, b, p, h => by
    show keyR k (c :: (a ++ b)) p = _
    unfold keyR at h ⊢
    by_cases hc : k ≠ ⟨#[]⟩ ∧ c.2.1 = k
    · rw [if_pos hc, if_pos hc]
    · rw [if_neg hc] at h
      rw [if_neg hc, if_neg hc]
      exact keyR_more k a b _ h
theorem keyR_none (k : ByteArray) : ∀ (a : List Bat) (p : Int), (keyR k a p).2.2 = false → keyR k a p = (⟨#[]⟩, app0, false)
  | [], p, h => rfl
  | c :: a, p, h => by
    unfold keyR at h ⊢
    by_cases hc : k ≠ ⟨#[]⟩ ∧ c.2.1 = k
    · rw [if_pos hc] at h; simp at h
    · rw [if_neg hc] at h ⊢
      exact keyR_none k a _ h

set_option maxRecDepth 100000 in
set_option maxHeartbeats 4000000 in
theorem RKeyed_any (w : World) (U : Nat → Prop) (r : Nat) (L : List Bat) (h : RIx U w r L) (hN : evN L ≤ 100000) (hL : L.length ≤ 100000) (k : ByteArray) (hk : k.size ≤ 9223372036854775807) :
    Calls Try.prog 83 #[.pointer (some ⟨r, 0, none⟩), .string k] w (KeyEnd w (keyR k L 0)) := by
  obtain ⟨v, S, h1, h2, h3, h4, h5, h6⟩ := h
  obtain ⟨va, vc, rfl⟩ := h2.slice
  have c0 := (cell_of_row _ _ 0 _ _ _ h1).trans rfl
  have HRD := hid h2.rdT
  have hrl : r < w.heap.size := World.block_lt_of_cell? _ _ c0
  have HN := hid hN
  clear h1 h2 h3 h4 h5 h6 hN
  go_enter Try.func83, Try.ntmps83
  obtain ⟨wa, hwa⟩ : ∃ wa, wa = w.alloc (.cells #[.int .i64 0, .int .i64 0, .int .i64 0, .bool false] 29) := ⟨_, rfl⟩
  have hxa : Ext w wa := by rw [hwa]; exact (Ext.refl _).alloc _
  have hra : wa.heap[w.heap.size]? = some (.cells #[.int .i64 0, .int .i64 0, .int .i64 0, .bool false] 29 (0, 0)) := by rw [hwa]; exact heap_alloc_new _ _
  go_wp2_with fail
  rw [← hwa]
  have HRA := hid hra
  have HXA := hid hxa
  have c0 := hxa.cellS c0
  have hrn : ¬ r = w.heap.size := by omega
  clear hwa hxa hra
  go_loopw [7, 8] (fun u7 u8 wr => ∃ i : Nat, u7 = .int .i64 (sumN (L.take i) : Int) ∧ u8 = .int .i64 i ∧ i ≤ L.length ∧ (keyR k (L.take i) 0).2.2 = false ∧ wr = wa) (fun _ u8 _ => L.length - (intOf u8).toNat)
  case atStart => exact ⟨0, rfl, rfl, Nat.zero_le _, rfl, rfl⟩
  case round =>
    obtain ⟨i, rfl, rfl, hi, hno, rfl⟩ := hrel
    by_cases hlt : i < L.length
    · obtain ⟨gb, ob, cb, ev, e, hgb, -, b0, b1, b2, b3, k1, k2, hev⟩ := (HRD.out.ext HXA.out).atBat i hlt
      simp only [Value.slice.injEq] at e
      obtain ⟨rfl, -, rfl⟩ := e
      have HT := hid (keyR_take k L i hlt hno)
      have hsum : sumN (L.take (i + 1)) = sumN (L.take i) + L[i].2.2.2.length := by rw [← List.take_append_getElem hlt, sumN_append]; simp [sumN]
      have hle : sumN (L.take (i + 1)) ≤ 100000 := by
        have := evN_le L (i + 1)
        rw [evN_sum] at this
        have := HN.out
        omega
      have HMORE := hid (show (keyR k (L.take (i + 1)) 0).2.2 = true → keyR k L 0 = keyR k (L.take (i + 1)) 0 from fun h => by
        have := keyR_more k (L.take (i + 1)) (L.drop (i + 1)) 0 h
        rwa [List.take_append_drop] at this)
      generalize L[i] = b at b0 b1 b2 b3 k1 k2 hev HT hsum
      obtain ⟨bs, bk, bf, be⟩ := b
      dsimp only at b0 b1 b2 b3 k1 k2 hev HT hsum
      obtain ⟨ea, ec, rfl, -, -⟩ := hev.slice
      have HSUM := hid hsum
      obtain ⟨sm, hsm⟩ : ∃ sm, sumN (L.take i) = sm := ⟨_, rfl⟩
      rw [hsm] at hsum HSUM HT ⊢
      have i1 : (i : Int) < (L.length : Int) := by omega
      have hw1 : IntKind.i64.wrap ((i : Int) + 1) = (i : Int) + 1 := by rw [IntKind.wrap_i64]; omega
      have hw2 : IntKind.i64.wrap ((sm : Int) + (be.length : Int)) = ((sm + be.length : Nat) : Int) := by rw [IntKind.wrap_i64]; omega
      clear hno hev k1 k2 hsm hsum hle
      by_cases hc : k ≠ ⟨#[]⟩ ∧ bk = k
      · obtain ⟨hc1, rfl⟩ := hc
        have e1 := str_nn hc1
        have e2 := str_tt (a := bk) rfl
        rw [if_pos ⟨hc1, rfl⟩] at HT
        have e3 := str_nem hc1
        have q0 : wr.cell? ⟨w.heap.size, 0, none⟩ = some (.int .i64 0) := (cell_of_row _ _ 0 _ _ _ HRA.out).trans rfl
        have f0 := frozen_blk HRA.out 0
        have q1 : wr.cell? ⟨w.heap.size, 1, none⟩ = some (.int .i64 0) := (cell_of_row _ _ 1 _ _ _ HRA.out).trans rfl
        have f1 := frozen_blk HRA.out 1
        have q2 : wr.cell? ⟨w.heap.size, 2, none⟩ = some (.int .i64 0) := (cell_of_row _ _ 2 _ _ _ HRA.out).trans rfl
        have f2 := frozen_blk HRA.out 2
        have q3 : wr.cell? ⟨w.heap.size, 3, none⟩ = some (.bool false) := (cell_of_row _ _ 3 _ _ _ HRA.out).trans rfl
        have f3 := frozen_blk HRA.out 3
        go_wp2_with fail
        have hxd : Ext wr wr.drew := by (· repeat (first | (with_reducible assumption) | exact Ext.refl _ | refine Ext.alloc ?_ _ | refine Ext.drew ?_ | refine Ext.drewN ?_ _ | (apply Ext.snart; (with_reducible assumption))))
        refine wp_region_T (fun w' => w'.cell? ⟨r, 0, none⟩ = some (.slice (some ⟨gb, ob, none⟩) L.length vc) ∧ w'.cell? ⟨gb, ob + i * 4, none⟩ = some (.string bs) ∧ w'.cell? ⟨gb, ob + i * 4 + 2, none⟩ = some (.int .i64 bf) ∧ w'.cell? ⟨gb, ob + i * 4 + 3, none⟩ = some (.slice ea be.length ec)) [28, 29] (by kernel_rfl) ⟨Ext.cellS hxd c0, Ext.cellS hxd b0, Ext.cellS hxd b2, Ext.cellS hxd b3⟩ (fun hS => ?_)
        (refine wpAnyT_take (i := 0) (v := ?_) rfl (by kernel_rfl) (by kernel_rfl) (by kernel_rfl) (by kernel_rfl) (fun _ _ _ h => h) (Or.inl ⟨by rfl, ?_⟩) (by assumption) ?_; rotate_left; ((intro wS hSw; (try dsimp only at hSw); (try simp only [List.getElem_toArray, List.getElem_cons_zero, List.getElem_cons_succ]); go_simp); (try with_reducible rfl)); (try simp only [Act.put, List.getElem_toArray, List.getElem_cons_zero, List.getElem_cons_succ, List.setIfInBounds_toArray, List.set_cons_zero, List.set_cons_succ]))
        (refine wpAnyT_take (i := 1) (v := ?_) rfl (by kernel_rfl) (by kernel_rfl) (by kernel_rfl) (by kernel_rfl) (fun _ _ _ h => h) (Or.inl ⟨by rfl, ?_⟩) (by assumption) ?_; rotate_left; ((intro wS hSw; (try dsimp only at hSw); (try simp only [List.getElem_toArray, List.getElem_cons_zero, List.getElem_cons_succ]); go_simp); (try with_reducible rfl)); (try simp only [Act.put, List.getElem_toArray, List.getElem_cons_zero, List.getElem_cons_succ, List.setIfInBounds_toArray, List.set_cons_zero, List.set_cons_succ]))
        (refine wpAnyT_take (i := 2) (v := ?_) rfl (by kernel_rfl) (by kernel_rfl) (by kernel_rfl) (by kernel_rfl) (fun _ _ _ h => h) (Or.inl ⟨by rfl, ?_⟩) (by assumption) ?_; rotate_left; ((intro wS hSw; (try dsimp only at hSw); (try simp only [List.getElem_toArray, List.getElem_cons_zero, List.getElem_cons_succ]); go_simp); (try with_reducible rfl)); (try simp only [Act.put, List.getElem_toArray, List.getElem_cons_zero, List.getElem_cons_succ, List.setIfInBounds_toArray, List.set_cons_zero, List.set_cons_succ]))
        (refine wpAnyT_take (i := 3) (v := ?_) rfl (by kernel_rfl) (by kernel_rfl) (by kernel_rfl) (by kernel_rfl) (fun _ _ _ h => h) (Or.inl ⟨by rfl, ?_⟩) (by assumption) ?_; rotate_left; ((intro wS hSw; (try dsimp only at hSw); (try simp only [List.getElem_toArray, List.getElem_cons_zero, List.getElem_cons_succ]); go_simp); (try with_reducible rfl)); (try simp only [Act.put, List.getElem_toArray, List.getElem_cons_zero, List.getElem_cons_succ, List.setIfInBounds_toArray, List.set_cons_zero, List.set_cons_succ]))
        (refine wpAnyT_take (i := 4) (v := ?_) rfl (by kernel_rfl) (by kernel_rfl) (by kernel_rfl) (by kernel_rfl) (fun _ _ _ h => h) (Or.inl ⟨by rfl, ?_⟩) (by assumption) ?_; rotate_left; ((intro wS hSw; (try dsimp only at hSw); (try simp only [List.getElem_toArray, List.getElem_cons_zero, List.getElem_cons_succ]); go_simp); (try with_reducible rfl)); (try simp only [Act.put, List.getElem_toArray, List.getElem_cons_zero, List.getElem_cons_succ, List.setIfInBounds_toArray, List.set_cons_zero, List.set_cons_succ]))
        (refine wpAnyT_take (i := 5) (v := ?_) rfl (by kernel_rfl) (by kernel_rfl) (by kernel_rfl) (by kernel_rfl) (fun _ _ _ h => h) (Or.inl ⟨by rfl, ?_⟩) (by assumption) ?_; rotate_left; ((intro wS hSw; (try dsimp only at hSw); (try simp only [List.getElem_toArray, List.getElem_cons_zero, List.getElem_cons_succ]); go_simp); (try with_reducible rfl)); (try simp only [Act.put, List.getElem_toArray, List.getElem_cons_zero, List.getElem_cons_succ, List.setIfInBounds_toArray, List.set_cons_zero, List.set_cons_succ]))
        (refine wpAnyT_take (i := 6) (v := ?_) rfl (by kernel_rfl) (by kernel_rfl) (by kernel_rfl) (by kernel_rfl) (fun _ _ _ h => h) (Or.inl ⟨by rfl, ?_⟩) (by assumption) ?_; rotate_left; ((intro wS hSw; (try dsimp only at hSw); (try simp only [List.getElem_toArray, List.getElem_cons_zero, List.getElem_cons_succ]); go_simp); (try with_reducible rfl)); (try simp only [Act.put, List.getElem_toArray, List.getElem_cons_zero, List.getElem_cons_succ, List.setIfInBounds_toArray, List.set_cons_zero, List.set_cons_succ]))
        (refine wpAnyT_take (i := 7) (v := ?_) rfl (by kernel_rfl) (by kernel_rfl) (by kernel_rfl) (by kernel_rfl) (fun _ _ _ h => h) (Or.inl ⟨by rfl, ?_⟩) (by assumption) ?_; rotate_left; ((intro wS hSw; (try dsimp only at hSw); (try simp only [List.getElem_toArray, List.getElem_cons_zero, List.getElem_cons_succ]); go_simp); (try with_reducible rfl)); (try simp only [Act.put, List.getElem_toArray, List.getElem_cons_zero, List.getElem_cons_succ, List.setIfInBounds_toArray, List.set_cons_zero, List.set_cons_succ]))
        (refine wpAnyT_take (i := 8) (v := ?_) rfl (by kernel_rfl) (by kernel_rfl) (by kernel_rfl) (by kernel_rfl) (fun _ _ _ h => h) (Or.inl ⟨by rfl, ?_⟩) (by assumption) ?_; rotate_left; ((intro wS hSw; (try dsimp only at hSw); (try simp only [List.getElem_toArray, List.getElem_cons_zero, List.getElem_cons_succ]); go_simp); (try with_reducible rfl)); (try simp only [Act.put, List.getElem_toArray, List.getElem_cons_zero, List.getElem_cons_succ, List.setIfInBounds_toArray, List.set_cons_zero, List.set_cons_succ]))
        (refine wpAnyT_take (i := 9) (v := ?_) rfl (by kernel_rfl) (by kernel_rfl) (by kernel_rfl) (by kernel_rfl) (fun _ _ _ h => h) (Or.inl ⟨by rfl, ?_⟩) (by assumption) ?_; rotate_left; ((intro wS hSw; (try dsimp only at hSw); (try simp only [List.getElem_toArray, List.getElem_cons_zero, List.getElem_cons_succ]); go_simp); (try with_reducible rfl)); (try simp only [Act.put, List.getElem_toArray, List.getElem_cons_zero, List.getElem_cons_succ, List.setIfInBounds_toArray, List.set_cons_zero, List.set_cons_succ]))
        (refine wpAnyT_take (i := 10) (v := ?_) rfl (by kernel_rfl) (by kernel_rfl) (by kernel_rfl) (by kernel_rfl) (fun _ _ _ h => h) (Or.inl ⟨by rfl, ?_⟩) (by assumption) ?_; rotate_left; ((intro wS hSw; (try dsimp only at hSw); (try simp only [List.getElem_toArray, List.getElem_cons_zero, List.getElem_cons_succ]); go_simp); (try with_reducible rfl)); (try simp only [Act.put, List.getElem_toArray, List.getElem_cons_zero, List.getElem_cons_succ, List.setIfInBounds_toArray, List.set_cons_zero, List.set_cons_succ]))
        (refine wpAnyT_take (i := 11) (v := ?_) rfl (by kernel_rfl) (by kernel_rfl) (by kernel_rfl) (by kernel_rfl) (fun _ _ _ h => h) (Or.inl ⟨by rfl, ?_⟩) (by assumption) ?_; rotate_left; ((intro wS hSw; (try dsimp only at hSw); (try simp only [List.getElem_toArray, List.getElem_cons_zero, List.getElem_cons_succ]); go_simp); (try with_reducible rfl)); (try simp only [Act.put, List.getElem_toArray, List.getElem_cons_zero, List.getElem_cons_succ, List.setIfInBounds_toArray, List.set_cons_zero, List.set_cons_succ]))
        (refine wpAnyT_take (i := 12) (v := ?_) rfl (by kernel_rfl) (by kernel_rfl) (by kernel_rfl) (by kernel_rfl) (fun _ _ _ h => h) (Or.inl ⟨by rfl, ?_⟩) (by assumption) ?_; rotate_left; ((intro wS hSw; (try dsimp only at hSw); (try simp only [List.getElem_toArray, List.getElem_cons_zero, List.getElem_cons_succ]); go_simp); (try with_reducible rfl)); (try simp only [Act.put, List.getElem_toArray, List.getElem_cons_zero, List.getElem_cons_succ, List.setIfInBounds_toArray, List.set_cons_zero, List.set_cons_succ]))
        (refine wpAnyT_take (i := 13) (v := ?_) rfl (by kernel_rfl) (by kernel_rfl) (by kernel_rfl) (by kernel_rfl) (fun _ _ _ h => h) (Or.inl ⟨by rfl, ?_⟩) (by assumption) ?_; rotate_left; ((intro wS hSw; (try dsimp only at hSw); (try simp only [List.getElem_toArray, List.getElem_cons_zero, List.getElem_cons_succ]); go_simp); (try with_reducible rfl)); (try simp only [Act.put, List.getElem_toArray, List.getElem_cons_zero, List.getElem_cons_succ, List.setIfInBounds_toArray, List.set_cons_zero, List.set_cons_succ]))
        (refine wpAnyT_take (i := 14) (v := ?_) rfl (by kernel_rfl) (by kernel_rfl) (by kernel_rfl) (by kernel_rfl) (fun _ _ _ h => h) (Or.inl ⟨by rfl, ?_⟩) (by assumption) ?_; rotate_left; ((intro wS hSw; (try dsimp only at hSw); (try simp only [List.getElem_toArray, List.getElem_cons_zero, List.getElem_cons_succ]); go_simp); (try with_reducible rfl)); (try simp only [Act.put, List.getElem_toArray, List.getElem_cons_zero, List.getElem_cons_succ, List.setIfInBounds_toArray, List.set_cons_zero, List.set_cons_succ]))
        (refine wpAnyT_take (i := 15) (v := ?_) rfl (by kernel_rfl) (by kernel_rfl) (by kernel_rfl) (by kernel_rfl) (fun _ _ _ h => h) (Or.inl ⟨by rfl, ?_⟩) (by assumption) ?_; rotate_left; ((intro wS hSw; (try dsimp only at hSw); (try simp only [List.getElem_toArray, List.getElem_cons_zero, List.getElem_cons_succ]); go_simp); (try with_reducible rfl)); (try simp only [Act.put, List.getElem_toArray, List.getElem_cons_zero, List.getElem_cons_succ, List.setIfInBounds_toArray, List.set_cons_zero, List.set_cons_succ]))
        (refine wpAnyT_take (i := 16) (v := ?_) rfl (by kernel_rfl) (by kernel_rfl) (by kernel_rfl) (by kernel_rfl) (fun _ _ _ h => h) (Or.inl ⟨by rfl, ?_⟩) (by assumption) ?_; rotate_left; ((intro wS hSw; (try dsimp only at hSw); (try simp only [List.getElem_toArray, List.getElem_cons_zero, List.getElem_cons_succ]); go_simp); (try with_reducible rfl)); (try simp only [Act.put, List.getElem_toArray, List.getElem_cons_zero, List.getElem_cons_succ, List.setIfInBounds_toArray, List.set_cons_zero, List.set_cons_succ]))
        (refine wpAnyT_take (i := 17) (v := ?_) rfl (by kernel_rfl) (by kernel_rfl) (by kernel_rfl) (by kernel_rfl) (fun _ _ _ h => h) (Or.inl ⟨by rfl, ?_⟩) (by assumption) ?_; rotate_left; ((intro wS hSw; (try dsimp only at hSw); (try simp only [List.getElem_toArray, List.getElem_cons_zero, List.getElem_cons_succ]); go_simp); (try with_reducible rfl)); (try simp only [Act.put, List.getElem_toArray, List.getElem_cons_zero, List.getElem_cons_succ, List.setIfInBounds_toArray, List.set_cons_zero, List.set_cons_succ]))
        (refine wpAnyT_take (i := 18) (v := ?_) rfl (by kernel_rfl) (by kernel_rfl) (by kernel_rfl) (by kernel_rfl) (fun _ _ _ h => h) (Or.inl ⟨by rfl, ?_⟩) (by assumption) ?_; rotate_left; ((intro wS hSw; (try dsimp only at hSw); (try simp only [List.getElem_toArray, List.getElem_cons_zero, List.getElem_cons_succ]); go_simp); (try with_reducible rfl)); (try simp only [Act.put, List.getElem_toArray, List.getElem_cons_zero, List.getElem_cons_succ, List.setIfInBounds_toArray, List.set_cons_zero, List.set_cons_succ]))
        (refine wpAnyT_take (i := 19) (v := ?_) rfl (by kernel_rfl) (by kernel_rfl) (by kernel_rfl) (by kernel_rfl) (fun _ _ _ h => h) (Or.inl ⟨by rfl, ?_⟩) (by assumption) ?_; rotate_left; ((intro wS hSw; (try dsimp only at hSw); (try simp only [List.getElem_toArray, List.getElem_cons_zero, List.getElem_cons_succ]); go_simp); (try with_reducible rfl)); (try simp only [Act.put, List.getElem_toArray, List.getElem_cons_zero, List.getElem_cons_succ, List.setIfInBounds_toArray, List.set_cons_zero, List.set_cons_succ]))
        (refine wpAnyT_take (i := 20) (v := ?_) rfl (by kernel_rfl) (by kernel_rfl) (by kernel_rfl) (by kernel_rfl) (fun _ _ _ h => h) (Or.inl ⟨by rfl, ?_⟩) (by assumption) ?_; rotate_left; ((intro wS hSw; (try dsimp only at hSw); (try simp only [List.getElem_toArray, List.getElem_cons_zero, List.getElem_cons_succ]); go_simp); (try with_reducible rfl)); (try simp only [Act.put, List.getElem_toArray, List.getElem_cons_zero, List.getElem_cons_succ, List.setIfInBounds_toArray, List.set_cons_zero, List.set_cons_succ]))
        (refine wpAnyT_take (i := 21) (v := ?_) rfl (by kernel_rfl) (by kernel_rfl) (by kernel_rfl) (by kernel_rfl) (fun _ _ _ h => h) (Or.inl ⟨by rfl, ?_⟩) (by assumption) ?_; rotate_left; ((intro wS hSw; (try dsimp only at hSw); (try simp only [List.getElem_toArray, List.getElem_cons_zero, List.getElem_cons_succ]); go_simp); (try with_reducible rfl)); (try simp only [Act.put, List.getElem_toArray, List.getElem_cons_zero, List.getElem_cons_succ, List.setIfInBounds_toArray, List.set_cons_zero, List.set_cons_succ]))
        (refine wpAnyT_take (i := 22) (v := ?_) rfl (by kernel_rfl) (by kernel_rfl) (by kernel_rfl) (by kernel_rfl) (fun _ _ _ h => h) (Or.inl ⟨by rfl, ?_⟩) (by assumption) ?_; rotate_left; ((intro wS hSw; (try dsimp only at hSw); (try simp only [List.getElem_toArray, List.getElem_cons_zero, List.getElem_cons_succ]); go_simp); (try with_reducible rfl)); (try simp only [Act.put, List.getElem_toArray, List.getElem_cons_zero, List.getElem_cons_succ, List.setIfInBounds_toArray, List.set_cons_zero, List.set_cons_succ]))
        (refine wpAnyT_take (i := 23) (v := ?_) rfl (by kernel_rfl) (by kernel_rfl) (by kernel_rfl) (by kernel_rfl) (fun _ _ _ h => h) (Or.inl ⟨by rfl, ?_⟩) (by assumption) ?_; rotate_left; ((intro wS hSw; (try dsimp only at hSw); (try simp only [List.getElem_toArray, List.getElem_cons_zero, List.getElem_cons_succ]); go_simp); (try with_reducible rfl)); (try simp only [Act.put, List.getElem_toArray, List.getElem_cons_zero, List.getElem_cons_succ, List.setIfInBounds_toArray, List.set_cons_zero, List.set_cons_succ]))
        (refine wpAnyT_take (i := 24) (v := ?_) rfl (by kernel_rfl) (by kernel_rfl) (by kernel_rfl) (by kernel_rfl) (fun _ _ _ h => h) (Or.inl ⟨by rfl, ?_⟩) (by assumption) ?_; rotate_left; ((intro wS hSw; (try dsimp only at hSw); (try simp only [List.getElem_toArray, List.getElem_cons_zero, List.getElem_cons_succ]); go_simp); (try with_reducible rfl)); (try simp only [Act.put, List.getElem_toArray, List.getElem_cons_zero, List.getElem_cons_succ, List.setIfInBounds_toArray, List.set_cons_zero, List.set_cons_succ]))
        (refine wpAnyT_take (i := 25) (v := ?_) rfl (by kernel_rfl) (by kernel_rfl) (by kernel_rfl) (by kernel_rfl) (fun _ _ _ h => h) (Or.inl ⟨by rfl, ?_⟩) (by assumption) ?_; rotate_left; ((intro wS hSw; (try dsimp only at hSw); (try simp only [List.getElem_toArray, List.getElem_cons_zero, List.getElem_cons_succ]); go_simp); (try with_reducible rfl)); (try simp only [Act.put, List.getElem_toArray, List.getElem_cons_zero, List.getElem_cons_succ, List.setIfInBounds_toArray, List.set_cons_zero, List.set_cons_succ]))
        (refine wpAnyT_take (i := 26) (v := ?_) rfl (by kernel_rfl) (by kernel_rfl) (by kernel_rfl) (by kernel_rfl) (fun _ _ _ h => h) (Or.inl ⟨by rfl, ?_⟩) (by assumption) ?_; rotate_left; ((intro wS hSw; (try dsimp only at hSw); (try simp only [List.getElem_toArray, List.getElem_cons_zero, List.getElem_cons_succ]); go_simp); (try with_reducible rfl)); (try simp only [Act.put, List.getElem_toArray, List.getElem_cons_zero, List.getElem_cons_succ, List.setIfInBounds_toArray, List.set_cons_zero, List.set_cons_succ]))
        (refine wpAnyT_take (i := 27) (v := ?_) rfl (by kernel_rfl) (by kernel_rfl) (by kernel_rfl) (by kernel_rfl) (fun _ _ _ h => h) (Or.inl ⟨by rfl, ?_⟩) (by assumption) ?_; rotate_left; ((intro wS hSw; (try dsimp only at hSw); (try simp only [List.getElem_toArray, List.getElem_cons_zero, List.getElem_cons_succ]); go_simp); (try with_reducible rfl)); (try simp only [Act.put, List.getElem_toArray, List.getElem_cons_zero, List.getElem_cons_succ, List.setIfInBounds_toArray, List.set_cons_zero, List.set_cons_succ]))
        refine wpAnyT_all (rs := [28]) (by kernel_rfl) (by decide) (AllT.consF rfl rfl (fun K hK => ?_) AllT.nil)
        go_simp
        (refine hK.out _ _ ?_; clear hK K)
        refine wpAnyT_all (rs := [29]) (by kernel_rfl) (by decide) (AllT.consF rfl rfl (fun K hK => ?_) AllT.nil)
        go_simp
        (refine hK.out _ _ ?_; clear hK K)
        refine wpAnyT_done (by kernel_rfl) (NoPanic.normal ?_) _
        clear q0 q1 q2 q3 f0 f1 f2 f3
        go_wp2_with fail
        have hr4 : ((((wr.setCell ⟨w.heap.size, 0, none⟩ (.int .i64 bf)).setCell ⟨w.heap.size, 1, none⟩ (.int .i64 (sm : Int))).setCell ⟨w.heap.size, 2, none⟩ (.int .i64 (be.length : Int))).setCell ⟨w.heap.size, 3, none⟩ (.bool false)).drew.heap[w.heap.size]? = some (.cells #[.int .i64 bf, .int .i64 (sm : Int), .int .i64 (be.length : Int), .bool false] 29 (0, 0)) := set4 HRA.out
        have p0 := (cell_of_row _ _ 0 _ _ _ hr4).trans rfl
        have p1 := (cell_of_row _ _ 1 _ _ _ hr4).trans rfl
        have p2 := (cell_of_row _ _ 2 _ _ _ hr4).trans rfl
        have p3 := (cell_of_row _ _ 3 _ _ _ hr4).trans rfl
        refine bodyPost_ret (v := .tuple #[.string bs, .agg #[.int .i64 bf, .int .i64 (sm : Int), .int .i64 (be.length : Int), .bool false], .bool true]) (by simp [results, Try.results83, go_sem, p0, p1, p2, p3]) rfl ?_
        rw [HMORE.out (by rw [HT.out]), HT.out]
        exact ⟨rfl, ((((HXA.out.setCell (p := ⟨w.heap.size, 0, none⟩) (Nat.le_refl _) _).setCell (p := ⟨w.heap.size, 1, none⟩) (Nat.le_refl _) _).setCell (p := ⟨w.heap.size, 2, none⟩) (Nat.le_refl _) _).setCell (p := ⟨w.heap.size, 3, none⟩) (Nat.le_refl _) _).drew⟩
      · have hcc : k = ⟨#[]⟩ ∨ (k ≠ ⟨#[]⟩ ∧ bk ≠ k) := by
          by_cases h : k = ⟨#[]⟩
          · exact .inl h
          · exact .inr ⟨h, fun e => hc ⟨h, e⟩⟩
        rw [if_neg hc] at HT
        clear hc
        rcases hcc with rfl | ⟨hc1, hc2⟩
        · have e1 := nil_toList
          go_wp2_with fail
          exact ⟨⟨i + 1, by rw [HSUM.out]; simp, rfl, by omega, by rw [HT.out], trivial⟩, by simp only [intOf]; omega⟩
        · have e1 := str_nn hc1
          have e3 := str_nem hc1
          have e2 := str_ff hc2
          go_wp2_with fail
          exact ⟨⟨i + 1, by rw [HSUM.out]; simp, rfl, by omega, by rw [HT.out], trivial⟩, by simp only [intOf]; omega⟩
    · obtain rfl : i = L.length := by omega
      have i1 : ¬ (L.length : Int) < (L.length : Int) := by omega
      rw [List.take_length] at hno
      have HNO := hid (keyR_none k L 0 hno)
      clear hno
      have q0 : wr.cell? ⟨w.heap.size, 0, none⟩ = some (.int .i64 0) := (cell_of_row _ _ 0 _ _ _ HRA.out).trans rfl
      have f0 := frozen_blk HRA.out 0
      have q1 : wr.cell? ⟨w.heap.size, 1, none⟩ = some (.int .i64 0) := (cell_of_row _ _ 1 _ _ _ HRA.out).trans rfl
      have f1 := frozen_blk HRA.out 1
      have q2 : wr.cell? ⟨w.heap.size, 2, none⟩ = some (.int .i64 0) := (cell_of_row _ _ 2 _ _ _ HRA.out).trans rfl
      have f2 := frozen_blk HRA.out 2
      have q3 : wr.cell? ⟨w.heap.size, 3, none⟩ = some (.bool false) := (cell_of_row _ _ 3 _ _ _ HRA.out).trans rfl
      have f3 := frozen_blk HRA.out 3
      go_wp2_with fail
      clear q0 q1 q2 q3 f0 f1 f2 f3
      have hr4 := set4 (v0 := .int .i64 0) (v1 := .int .i64 0) (v2 := .int .i64 0) (v3 := .bool false) HRA.out
      have p0 := (cell_of_row _ _ 0 _ _ _ hr4).trans rfl
      have p1 := (cell_of_row _ _ 1 _ _ _ hr4).trans rfl
      have p2 := (cell_of_row _ _ 2 _ _ _ hr4).trans rfl
      have p3 := (cell_of_row _ _ 3 _ _ _ hr4).trans rfl
      refine bodyPost_ret (v := .tuple #[.string ⟨#[]⟩, .agg #[.int .i64 0, .int .i64 0, .int .i64 0, .bool false], .bool false]) (by simp [results, Try.results83, go_sem, p0, p1, p2, p3]) rfl ?_
      rw [HNO.out]
      exact ⟨rfl, (((HXA.out.setCell (p := ⟨w.heap.size, 0, none⟩) (Nat.le_refl _) _).setCell (p := ⟨w.heap.size, 1, none⟩) (Nat.le_refl _) _).setCell (p := ⟨w.heap.size, 2, none⟩) (Nat.le_refl _) _).setCell (p := ⟨w.heap.size, 3, none⟩) (Nat.le_refl _) _⟩
end Go.Proofs.Ythobhkmphjnlaaa

/- The document's Index: named, right, Try. -/
namespace Go.Proofs.Ythobhkmphjnlaaa
open Go.RowKit Go.Maps
set_option linter.unusedVariables false
set_option linter.unusedSimpArgs false

theorem Rnamed_any (w : World) (s k : ByteArray) (hs : s.size ≤ 9223372036854775807) (hk : k.size ≤ 9223372036854775807) :
    Calls Try.prog 97 #[.string s, .string k] w fun e w' => e = .returned (.bool (namedF s k)) ∧ w = w' := by
  have HN := hid (show namedF s k = ((decide ((1 : Int) ≤ (s.size : Int)) && decide ((s.size : Int) ≤ 60)) && decide ((k.size : Int) ≤ 60)) by unfold namedF nameOk; rw [Bool.eq_iff_iff]; simp; omega)
  by_cases h1 : (1 : Int) ≤ (s.size : Int) <;> by_cases h3 : (s.size : Int) ≤ 60
  all_goals
    go_enter Try.func97, Try.ntmps97
    go_wp2_with fail
    go_ret
    exact ⟨ret_bool (by rw [HN.out]; first | (simp [h1, h3]; done) | (rw [Bool.eq_iff_iff]; simp; omega)), rfl⟩
set_option maxRecDepth 100000 in
set_option maxHeartbeats 1000000 in
theorem Rright_any (w : World) (S : Nat → Prop) (lv : Value) (l : List Ev) (hl : RdS rE w S lv l) (hle : l.length ≤ 9223372036854775807) :
    Calls Try.prog 98 #[lv] w fun e w' => e = .returned (.bool (rightF l)) ∧ Ext w w' := by
  obtain ⟨la, lc, rfl, -, -⟩ := hl.slice
  have HL := hid hl
  clear hl
  go_enter Try.func98, Try.ntmps98
  go_wp2_with fail
  go_loopw [3] (fun u3 wr => ∃ i : Nat, u3 = .int .i64 i ∧ i ≤ l.length ∧ (∀ j (hj : j < l.length), j < i → evOk l[j] = true) ∧ Ext w wr) (fun u3 _ => l.length - (intOf u3).toNat)
  case atStart => exact ⟨0, rfl, Nat.zero_le _, fun j hj h => by omega, Ext.refl _⟩
  case round =>
    obtain ⟨wo, rfl⟩ : ∃ wo : World, wo = wr := ⟨_, rfl⟩
    obtain ⟨i, rfl, hi, hok, hx⟩ := hrel
    have HOK := hid hok
    have HX := hid hx
    clear hok
    by_cases hlt : i < l.length
    · obtain ⟨g, o, cap, fv, e, hg, -, d0, d1, d2, h1, h2, h3⟩ := (HL.out.ext hx).atE i hlt
      simp only [Value.slice.injEq] at e
      obtain ⟨rfl, -, rfl⟩ := e
      obtain ⟨fa, fc, rfl, -, -⟩ := h3.slice
      generalize hev : l[i] = ev at d0 d1 d2 h1 h2 h3
      have HEV := hid hev
      obtain ⟨t, n, fs⟩ := ev
      dsimp only at d0 d1 d2 h1 h2 h3
      have H3 := hid h3
      clear hev h3 hx
      by_cases hev : evOk (t, n, fs) = true
      · have HC := hid (show checkF (t, n, fs) = 0 by unfold checkF; rw [if_pos hev])
        have HV := hid hev
        clear hev
        go_wp2_with (go_at_call 24; go_must (refine (RCheck_any _ S t n _ fs h1 h2 (H3.out.ext (by (· repeat (first | (with_reducible assumption) | exact Ext.refl _ | refine Ext.alloc ?_ _ | refine Ext.drew ?_ | refine Ext.drewN ?_ _ | (apply Ext.snart; (with_reducible assumption))))))).mono ?_; rw [HC.out]; rintro e w1 ⟨rfl, hb1⟩; have hx1 := Ext.of hb1; clear hb1))
        go_roundw
        case rel => exact ⟨i + 1, by go_num, by omega, fun j hj h => by
          by_cases hji : j < i
          · exact HOK.out j hj hji
          · obtain rfl : j = i := by omega
            rw [HEV.out]; exact HV.out, HX.out.trans (show Ext wo _ by (· repeat (first | (with_reducible assumption) | exact Ext.refl _ | refine Ext.alloc ?_ _ | refine Ext.drew ?_ | refine Ext.drewN ?_ _ | (apply Ext.snart; (with_reducible assumption)))))⟩
        case measure => simp [intOf]; omega
      · have HC := hid (show checkF (t, n, fs) = 13 by unfold checkF; rw [if_neg hev])
        have HR := hid (show rightF l = false by
          unfold rightF
          rw [Bool.and_eq_false_iff]; left
          rw [List.all_eq_false]
          exact ⟨l[i], List.getElem_mem hlt, by rw [HEV.out]; exact hev⟩)
        clear hev
        go_wp2_with (go_at_call 24; go_must (refine (RCheck_any _ S t n _ fs h1 h2 (H3.out.ext (by (· repeat (first | (with_reducible assumption) | exact Ext.refl _ | refine Ext.alloc ?_ _ | refine Ext.drew ?_ | refine Ext.drewN ?_ _ | (apply Ext.snart; (with_reducible assumption))))))).mono ?_; rw [HC.out]; rintro e w1 ⟨rfl, hb1⟩; have hx1 := Ext.of hb1; clear hb1))
        go_ret
        exact ⟨ret_bool (by rw [HR.out]), HX.out.trans (show Ext wo _ by (· repeat (first | (with_reducible assumption) | exact Ext.refl _ | refine Ext.alloc ?_ _ | refine Ext.drew ?_ | refine Ext.drewN ?_ _ | (apply Ext.snart; (with_reducible assumption)))))⟩
    · have HR := hid (show rightF l = (decide (0 < (l.length : Int)) && decide ((l.length : Int) ≤ 16)) by
        unfold rightF
        rw [List.all_eq_true.2 (fun e he => by obtain ⟨j, hj, rfl⟩ := List.getElem_of_mem he; exact HOK.out j hj (by omega)), Bool.true_and, Bool.eq_iff_iff]
        simp; omega)
      clear hx HOK
      have hil : ¬ i < l.length := hlt
      by_cases h0 : 0 < l.length
      all_goals
        go_wp2_with fail
        go_ret
        exact ⟨ret_bool (by rw [HR.out]; first | (rw [Bool.eq_iff_iff]; simp; omega) | (rw [Bool.eq_iff_iff]; simp [h0]) | simp), HX.out⟩

theorem row4 {w : World} {g : Nat} {a b c d : Value} {t : TypeId} (h : w.heap[g]? = some (.cells #[a, b, c, d] t (0, 0))) :
    (w.cell? ⟨g, 0, none⟩ = some a ∧ w.cell? ⟨g, 1, none⟩ = some b ∧ w.cell? ⟨g, 2, none⟩ = some c ∧ w.cell? ⟨g, 3, none⟩ = some d) ∧ w.frozen? ⟨g, 0, none⟩ = false ∧ w.frozen? ⟨g, 1, none⟩ = false ∧ w.frozen? ⟨g, 2, none⟩ = false ∧ w.frozen? ⟨g, 3, none⟩ = false :=
  ⟨⟨(cell_of_row _ _ 0 _ _ _ h).trans rfl, (cell_of_row _ _ 1 _ _ _ h).trans rfl, (cell_of_row _ _ 2 _ _ _ h).trans rfl, (cell_of_row _ _ 3 _ _ _ h).trans rfl⟩, frozen_blk h 0, frozen_blk h 1, frozen_blk h 2, frozen_blk h 3⟩
theorem ext_grown {w w6 : World} {X : Obj} (k : (w.alloc X).grownBy w6 (Value.slice (some ⟨w.heap.size, 0, none⟩) 0 0).ownBlock) : Ext w w6 := by
  refine Keep.ext ((((Ext.refl w).alloc X).keep (fun k => k < w.heap.size)).trans ((keep_grown k).mono fun j hj _ e => ?_) |>.mono fun k _ hl => hl)
  simp only [Value.ownBlock, Option.map_some, Option.some.injEq] at e
  omega
theorem row_grown {w w6 : World} {X o : Obj} {g : Nat} (k : (w.alloc X).grownBy w6 (Value.slice (some ⟨w.heap.size, 0, none⟩) 0 0).ownBlock) (h : w.heap[g]? = some o) : w6.heap[g]? = some o :=
  (Below.block (ext_grown k) g (Array.getElem?_eq_some_iff.1 h).1).trans h

def TryEndR (w : World) (S : Nat → Prop) (z : Apd × (Bat × Nat)) (e : Ending) (w' : World) : Prop :=
  ∃ ev, e = .returned (.tuple #[.agg #[.int .i64 z.1.1, .int .i64 z.1.2.1, .int .i64 z.1.2.2.1, .bool z.1.2.2.2], .agg #[.string z.2.1.1, .string z.2.1.2.1, .int .i64 z.2.1.2.2.1, ev], .int .i64 ((z.2.2 : Nat) : Int)]) ∧ OwnS rE 46 w' w.heap.size (fun k => S k ∧ k < w.heap.size) ev z.2.1.2.2.2 ∧ Ext w w'

set_option maxRecDepth 100000 in
set_option maxHeartbeats 4000000 in
theorem RTry_any (w : World) (U : Nat → Prop) (r : Nat) (L : List Bat) (h : RIx U w r L) (hN : evN L ≤ 100000) (hL : L.length ≤ 100000) (hb : BOk L) (s : ByteArray) (hs : s.size ≤ 9223372036854775807) (n : Int) (hn : -9223372036854775808 ≤ n ∧ n ≤ 9223372036854775807) (k : ByteArray) (hk : k.size ≤ 9223372036854775807)
    (S : Nat → Prop) (lv : Value) (l : List Ev) (hl : RdS rE w S lv l) (hle : l.length ≤ 9223372036854775807) :
    Calls Try.prog 96 #[.pointer (some ⟨r, 0, none⟩), .string s, .int .i64 n, .string k, lv] w (TryEndR w S (tryR L s n k l)) := by
  obtain ⟨la, lc, rfl, -, -⟩ := hl.slice
  have H := hid h
  have HB0 := hid hb
  have HL := hid (hl.mono (S' := fun k => S k ∧ k < w.heap.size) fun k h hl => ⟨h, hl⟩)
  clear h hb hl
  obtain ⟨wa, hwa⟩ : ∃ wa, wa = (w.alloc (.cells #[.int .i64 0, .int .i64 0, .int .i64 0, .bool false] 29)).alloc (.cells #[.string ⟨#[]⟩, .string ⟨#[]⟩, .int .i64 0, .slice none 0 0] 31) := ⟨_, rfl⟩
  have hxa : Ext w wa := by rw [hwa]; exact ((Ext.refl _).alloc _).alloc _
  have hzz : wa.heap.size = w.heap.size + 2 := by rw [hwa]; simp
  have hrA : wa.heap[w.heap.size]? = some (.cells #[.int .i64 0, .int .i64 0, .int .i64 0, .bool false] 29 (0, 0)) := by rw [hwa]; exact (Below.block ((Ext.refl (w.alloc _)).alloc _) _ (by simp)).trans (heap_alloc_new _ _)
  have hrB : wa.heap[w.heap.size + 1]? = some (.cells #[.string ⟨#[]⟩, .string ⟨#[]⟩, .int .i64 0, .slice none 0 0] 31 (0, 0)) := by
    rw [hwa]
    have := heap_alloc_new (w.alloc (.cells #[.int .i64 0, .int .i64 0, .int .i64 0, .bool false] 29)) (.cells #[.string ⟨#[]⟩, .string ⟨#[]⟩, .int .i64 0, .slice none 0 0] 31)
    simpa using this
  go_enter Try.func96, Try.ntmps96
  go_wp2_with fail
  rw [← hwa]
  obtain ⟨gA, hgA⟩ : ∃ gA, w.heap.size = gA := ⟨_, rfl⟩
  obtain ⟨gB, hgB⟩ : ∃ gB, w.heap.size + 1 = gB := ⟨_, rfl⟩
  have hAB : ¬ gA = gB := by omega
  have hBA : ¬ gB = gA := by omega
  have hlA : gA < wa.heap.size := by omega
  have hlB : gB < wa.heap.size := by omega
  have HgA := hid (show w.heap.size ≤ gA by omega)
  have HgB := hid (show w.heap.size ≤ gB by omega)
  have HXA := hid hxa
  rw [hgB] at hrB ⊢
  have HB := hid hrB
  have HA := hid (show wa.heap[gA]? = some (.cells #[.int .i64 0, .int .i64 0, .int .i64 0, .bool false] 29 (0, 0)) from hgA ▸ hrA)
  (try rw [hgA])
  clear hwa hrA hrB hgB hxa hzz
  refine (Rnamed_any wa s k hs hk).mono ?_
  rintro e w' ⟨rfl, rfl⟩
  cases hnm : namedF s k
  · have HT := hid (show tryR L s n k l = (app0, bat0, 100) by unfold tryR; rw [if_pos hnm])
    clear hnm
    have a0 : wa.cell? ⟨gA, 0, none⟩ = some (.int .i64 0) := (cell_of_row _ _ 0 _ _ _ HA.out).trans rfl
    have fa0 := frozen_blk HA.out 0
    have a1 : wa.cell? ⟨gA, 1, none⟩ = some (.int .i64 0) := (cell_of_row _ _ 1 _ _ _ HA.out).trans rfl
    have fa1 := frozen_blk HA.out 1
    have a2 : wa.cell? ⟨gA, 2, none⟩ = some (.int .i64 0) := (cell_of_row _ _ 2 _ _ _ HA.out).trans rfl
    have fa2 := frozen_blk HA.out 2
    have a3 : wa.cell? ⟨gA, 3, none⟩ = some (.bool false) := (cell_of_row _ _ 3 _ _ _ HA.out).trans rfl
    have fa3 := frozen_blk HA.out 3
    have b0 : wa.cell? ⟨gB, 0, none⟩ = some (.string ⟨#[]⟩) := (cell_of_row _ _ 0 _ _ _ HB.out).trans rfl
    have fb0 := frozen_blk HB.out 0
    have b1 : wa.cell? ⟨gB, 1, none⟩ = some (.string ⟨#[]⟩) := (cell_of_row _ _ 1 _ _ _ HB.out).trans rfl
    have fb1 := frozen_blk HB.out 1
    have b2 : wa.cell? ⟨gB, 2, none⟩ = some (.int .i64 0) := (cell_of_row _ _ 2 _ _ _ HB.out).trans rfl
    have fb2 := frozen_blk HB.out 2
    have b3 : wa.cell? ⟨gB, 3, none⟩ = some (.slice none 0 0) := (cell_of_row _ _ 3 _ _ _ HB.out).trans rfl
    have fb3 := frozen_blk HB.out 3
    go_wp2_with fail
    clear a0 fa0 a1 fa1 a2 fa2 a3 fa3 b0 fb0 b1 fb1 b2 fb2 b3 fb3
    obtain ⟨qA, qB⟩ := eight_cells (u0 := .int .i64 0) (u1 := .int .i64 0) (u2 := .int .i64 0) (u3 := .bool false) (v0 := .string ⟨#[]⟩) (v1 := .string ⟨#[]⟩) (v2 := .int .i64 0) (v3 := .slice none 0 0) HA.out HB.out hAB
    have rA0 := (cell_of_row _ _ 0 _ _ _ qA).trans rfl
    have rA1 := (cell_of_row _ _ 1 _ _ _ qA).trans rfl
    have rA2 := (cell_of_row _ _ 2 _ _ _ qA).trans rfl
    have rA3 := (cell_of_row _ _ 3 _ _ _ qA).trans rfl
    have rB0 := (cell_of_row _ _ 0 _ _ _ qB).trans rfl
    have rB1 := (cell_of_row _ _ 1 _ _ _ qB).trans rfl
    have rB2 := (cell_of_row _ _ 2 _ _ _ qB).trans rfl
    have rB3 := (cell_of_row _ _ 3 _ _ _ qB).trans rfl
    refine bodyPost_ret (v := .tuple #[.agg #[.int .i64 0, .int .i64 0, .int .i64 0, .bool false], .agg #[.string ⟨#[]⟩, .string ⟨#[]⟩, .int .i64 0, .slice none 0 0], .int .i64 100]) (by simp [results, Try.results96, go_sem, rA0, rA1, rA2, rA3, rB0, rB1, rB2, rB3]) rfl ?_
    rw [HT.out]
    exact ⟨_, rfl, OwnS.nil _ _ _ _ _, eight_ext HXA.out HgA.out HgB.out⟩
  · go_wp2_with fail
    refine (RKeyed_any wa U r L (H.out.ext HXA.out) hN hL k hk).mono ?_
    rintro e w1 ⟨rfl, hx1⟩
    obtain ⟨z, hz⟩ : ∃ z, keyR k L 0 = z := ⟨_, rfl⟩
    rw [hz]
    obtain ⟨zs, ⟨z1, z2, z3, z4⟩, zt⟩ := z
    have HA := hid ((Below.block hx1 gA hlA).trans HA.out)
    have HB := hid ((Below.block hx1 gB hlB).trans HB.out)
    have hz1 := hx1.size
    have HX1 := hid (HXA.out.trans hx1)
    have hCA : ¬ gA = w1.heap.size := by omega
    have hAC : ¬ w1.heap.size = gA := by omega
    have hCB : ¬ gB = w1.heap.size := by omega
    have hBC : ¬ w1.heap.size = gB := by omega
    have hA1 : gA < w1.heap.size := by omega
    have hB1 : gB < w1.heap.size := by omega
    clear hx1
    dsimp only
    have HNM := hid hnm
    have HZ := hid hz
    clear hnm hz
    cases zt
    · have hk0 := keyR_none k L 0 (by rw [HZ.out])
      rw [HZ.out] at hk0
      simp only [Prod.mk.injEq] at hk0
      obtain ⟨rfl, ⟨rfl, rfl, rfl, rfl⟩, -⟩ := hk0
      go_wp2_with fail
      obtain ⟨w2, hw2⟩ : ∃ w2, w2 = w1.alloc (.cells #[.int .i64 0, .int .i64 0, .int .i64 0, .bool false] 29) := ⟨_, rfl⟩
      rw [← hw2]
      have hx2 : Ext w1 w2 := by rw [hw2]; exact (Ext.refl _).alloc _
      have HA := hid ((Below.block hx2 gA hA1).trans HA.out)
      have HB := hid ((Below.block hx2 gB hB1).trans HB.out)
      have hz2 := hx2.size
      have HX2 := hid (HX1.out.trans hx2)
      clear hw2 hx2 hCA hAC hCB hBC
      refine (Rright_any w2 _ _ l (HL.out.ext HX2.out) hle).mono ?_
      rintro e w3 ⟨rfl, hx3⟩
      have HA := hid ((Below.block hx3 gA (by omega)).trans HA.out)
      have HB := hid ((Below.block hx3 gB (by omega)).trans HB.out)
      have hz3 := hx3.size
      have HX3 := hid (HX2.out.trans hx3)
      clear hx3
      cases hrt : rightF l
      · have HT := hid (show tryR L s n k l = (app0, bat0, 102) by unfold tryR; rw [if_neg (by rw [HNM.out]; simp), HZ.out]; simp [hrt])
        clear hrt
        have a0 : w3.cell? ⟨gA, 0, none⟩ = some (.int .i64 0) := (cell_of_row _ _ 0 _ _ _ HA.out).trans rfl
        have fa0 := frozen_blk HA.out 0
        have a1 : w3.cell? ⟨gA, 1, none⟩ = some (.int .i64 0) := (cell_of_row _ _ 1 _ _ _ HA.out).trans rfl
        have fa1 := frozen_blk HA.out 1
        have a2 : w3.cell? ⟨gA, 2, none⟩ = some (.int .i64 0) := (cell_of_row _ _ 2 _ _ _ HA.out).trans rfl
        have fa2 := frozen_blk HA.out 2
        have a3 : w3.cell? ⟨gA, 3, none⟩ = some (.bool false) := (cell_of_row _ _ 3 _ _ _ HA.out).trans rfl
        have fa3 := frozen_blk HA.out 3
        have b0 : w3.cell? ⟨gB, 0, none⟩ = some (.string ⟨#[]⟩) := (cell_of_row _ _ 0 _ _ _ HB.out).trans rfl
        have fb0 := frozen_blk HB.out 0
        have b1 : w3.cell? ⟨gB, 1, none⟩ = some (.string ⟨#[]⟩) := (cell_of_row _ _ 1 _ _ _ HB.out).trans rfl
        have fb1 := frozen_blk HB.out 1
        have b2 : w3.cell? ⟨gB, 2, none⟩ = some (.int .i64 0) := (cell_of_row _ _ 2 _ _ _ HB.out).trans rfl
        have fb2 := frozen_blk HB.out 2
        have b3 : w3.cell? ⟨gB, 3, none⟩ = some (.slice none 0 0) := (cell_of_row _ _ 3 _ _ _ HB.out).trans rfl
        have fb3 := frozen_blk HB.out 3
        go_wp2_with fail
        clear a0 fa0 a1 fa1 a2 fa2 a3 fa3 b0 fb0 b1 fb1 b2 fb2 b3 fb3
        obtain ⟨qA, qB⟩ := eight_cells (u0 := .int .i64 0) (u1 := .int .i64 0) (u2 := .int .i64 0) (u3 := .bool false) (v0 := .string ⟨#[]⟩) (v1 := .string ⟨#[]⟩) (v2 := .int .i64 0) (v3 := .slice none 0 0) HA.out HB.out hAB
        have rA0 := (cell_of_row _ _ 0 _ _ _ qA).trans rfl
        have rA1 := (cell_of_row _ _ 1 _ _ _ qA).trans rfl
        have rA2 := (cell_of_row _ _ 2 _ _ _ qA).trans rfl
        have rA3 := (cell_of_row _ _ 3 _ _ _ qA).trans rfl
        have rB0 := (cell_of_row _ _ 0 _ _ _ qB).trans rfl
        have rB1 := (cell_of_row _ _ 1 _ _ _ qB).trans rfl
        have rB2 := (cell_of_row _ _ 2 _ _ _ qB).trans rfl
        have rB3 := (cell_of_row _ _ 3 _ _ _ qB).trans rfl
        refine bodyPost_ret (v := .tuple #[.agg #[.int .i64 0, .int .i64 0, .int .i64 0, .bool false], .agg #[.string ⟨#[]⟩, .string ⟨#[]⟩, .int .i64 0, .slice none 0 0], .int .i64 102]) (by simp [results, Try.results96, go_sem, rA0, rA1, rA2, rA3, rB0, rB1, rB2, rB3]) rfl ?_
        rw [HT.out]
        exact ⟨_, rfl, OwnS.nil _ _ _ _ _, eight_ext HX3.out HgA.out HgB.out⟩
      · by_cases hn1 : n < -1
        · have HT := hid (show tryR L s n k l = (app0, bat0, 1) by unfold tryR; rw [if_neg (by rw [HNM.out]; simp), HZ.out]; simp [hrt, hn1])
          clear hrt
          have a0 : w3.cell? ⟨gA, 0, none⟩ = some (.int .i64 0) := (cell_of_row _ _ 0 _ _ _ HA.out).trans rfl
          have fa0 := frozen_blk HA.out 0
          have a1 : w3.cell? ⟨gA, 1, none⟩ = some (.int .i64 0) := (cell_of_row _ _ 1 _ _ _ HA.out).trans rfl
          have fa1 := frozen_blk HA.out 1
          have a2 : w3.cell? ⟨gA, 2, none⟩ = some (.int .i64 0) := (cell_of_row _ _ 2 _ _ _ HA.out).trans rfl
          have fa2 := frozen_blk HA.out 2
          have a3 : w3.cell? ⟨gA, 3, none⟩ = some (.bool false) := (cell_of_row _ _ 3 _ _ _ HA.out).trans rfl
          have fa3 := frozen_blk HA.out 3
          have b0 : w3.cell? ⟨gB, 0, none⟩ = some (.string ⟨#[]⟩) := (cell_of_row _ _ 0 _ _ _ HB.out).trans rfl
          have fb0 := frozen_blk HB.out 0
          have b1 : w3.cell? ⟨gB, 1, none⟩ = some (.string ⟨#[]⟩) := (cell_of_row _ _ 1 _ _ _ HB.out).trans rfl
          have fb1 := frozen_blk HB.out 1
          have b2 : w3.cell? ⟨gB, 2, none⟩ = some (.int .i64 0) := (cell_of_row _ _ 2 _ _ _ HB.out).trans rfl
          have fb2 := frozen_blk HB.out 2
          have b3 : w3.cell? ⟨gB, 3, none⟩ = some (.slice none 0 0) := (cell_of_row _ _ 3 _ _ _ HB.out).trans rfl
          have fb3 := frozen_blk HB.out 3
          go_wp2_with fail
          clear a0 fa0 a1 fa1 a2 fa2 a3 fa3 b0 fb0 b1 fb1 b2 fb2 b3 fb3
          obtain ⟨qA, qB⟩ := eight_cells (u0 := .int .i64 0) (u1 := .int .i64 0) (u2 := .int .i64 0) (u3 := .bool false) (v0 := .string ⟨#[]⟩) (v1 := .string ⟨#[]⟩) (v2 := .int .i64 0) (v3 := .slice none 0 0) HA.out HB.out hAB
          have rA0 := (cell_of_row _ _ 0 _ _ _ qA).trans rfl
          have rA1 := (cell_of_row _ _ 1 _ _ _ qA).trans rfl
          have rA2 := (cell_of_row _ _ 2 _ _ _ qA).trans rfl
          have rA3 := (cell_of_row _ _ 3 _ _ _ qA).trans rfl
          have rB0 := (cell_of_row _ _ 0 _ _ _ qB).trans rfl
          have rB1 := (cell_of_row _ _ 1 _ _ _ qB).trans rfl
          have rB2 := (cell_of_row _ _ 2 _ _ _ qB).trans rfl
          have rB3 := (cell_of_row _ _ 3 _ _ _ qB).trans rfl
          refine bodyPost_ret (v := .tuple #[.agg #[.int .i64 0, .int .i64 0, .int .i64 0, .bool false], .agg #[.string ⟨#[]⟩, .string ⟨#[]⟩, .int .i64 0, .slice none 0 0], .int .i64 1]) (by simp [results, Try.results96, go_sem, rA0, rA1, rA2, rA3, rB0, rB1, rB2, rB3]) rfl ?_
          rw [HT.out]
          exact ⟨_, rfl, OwnS.nil _ _ _ _ _, eight_ext HX3.out HgA.out HgB.out⟩
        · go_wp2_with fail
          refine (ROf_any w3 U r L (H.out.ext HX3.out) hN hL HB0.out s hs).mono ?_
          rintro e w4 ⟨v4, rfl, S4, ho4, hS4, hx4⟩
          obtain ⟨oa, oc, rfl⟩ := ho4.slice
          obtain ⟨m, hm⟩ : ∃ m, (ofF (entsF L) s).length = m := ⟨_, rfl⟩
          have HT0 := hid (show tryR L s n k l = if 0 ≤ n ∧ n ≠ (m : Int) then (app0, bat0, 103) else (((m : Int), (evN L : Int), (l.length : Int), false), (s, k, (m : Int), l), 0) by unfold tryR; rw [if_neg (by rw [HNM.out]; simp), HZ.out, if_neg (by simp), if_neg (by rw [hrt]; simp), if_neg (show ¬ n < -1 by omega), hm])
          rw [hm]
          have HA := hid ((Below.block hx4 gA (by omega)).trans HA.out)
          have HB := hid ((Below.block hx4 gB (by omega)).trans HB.out)
          have hz4 := hx4.size
          have HX4 := hid (HX3.out.trans hx4)
          clear ho4 hS4 hx4 hm
          by_cases hn2 : 0 ≤ n ∧ n ≠ (m : Int)
          · have HT := hid (HT0.out.trans (if_pos hn2))
            obtain ⟨hn3, hn4⟩ := hn2
            have hn5 : (n == (m : Int)) = false := by simp [hn4]
            have hn6 : (n != (m : Int)) = true := by simp [hn4]
            clear hrt HT0
            have a0 : w4.cell? ⟨gA, 0, none⟩ = some (.int .i64 0) := (cell_of_row _ _ 0 _ _ _ HA.out).trans rfl
            have fa0 := frozen_blk HA.out 0
            have a1 : w4.cell? ⟨gA, 1, none⟩ = some (.int .i64 0) := (cell_of_row _ _ 1 _ _ _ HA.out).trans rfl
            have fa1 := frozen_blk HA.out 1
            have a2 : w4.cell? ⟨gA, 2, none⟩ = some (.int .i64 0) := (cell_of_row _ _ 2 _ _ _ HA.out).trans rfl
            have fa2 := frozen_blk HA.out 2
            have a3 : w4.cell? ⟨gA, 3, none⟩ = some (.bool false) := (cell_of_row _ _ 3 _ _ _ HA.out).trans rfl
            have fa3 := frozen_blk HA.out 3
            have b0 : w4.cell? ⟨gB, 0, none⟩ = some (.string ⟨#[]⟩) := (cell_of_row _ _ 0 _ _ _ HB.out).trans rfl
            have fb0 := frozen_blk HB.out 0
            have b1 : w4.cell? ⟨gB, 1, none⟩ = some (.string ⟨#[]⟩) := (cell_of_row _ _ 1 _ _ _ HB.out).trans rfl
            have fb1 := frozen_blk HB.out 1
            have b2 : w4.cell? ⟨gB, 2, none⟩ = some (.int .i64 0) := (cell_of_row _ _ 2 _ _ _ HB.out).trans rfl
            have fb2 := frozen_blk HB.out 2
            have b3 : w4.cell? ⟨gB, 3, none⟩ = some (.slice none 0 0) := (cell_of_row _ _ 3 _ _ _ HB.out).trans rfl
            have fb3 := frozen_blk HB.out 3
            go_wp2_with fail
            clear a0 fa0 a1 fa1 a2 fa2 a3 fa3 b0 fb0 b1 fb1 b2 fb2 b3 fb3
            obtain ⟨qA, qB⟩ := eight_cells (u0 := .int .i64 0) (u1 := .int .i64 0) (u2 := .int .i64 0) (u3 := .bool false) (v0 := .string ⟨#[]⟩) (v1 := .string ⟨#[]⟩) (v2 := .int .i64 0) (v3 := .slice none 0 0) HA.out HB.out hAB
            have rA0 := (cell_of_row _ _ 0 _ _ _ qA).trans rfl
            have rA1 := (cell_of_row _ _ 1 _ _ _ qA).trans rfl
            have rA2 := (cell_of_row _ _ 2 _ _ _ qA).trans rfl
            have rA3 := (cell_of_row _ _ 3 _ _ _ qA).trans rfl
            have rB0 := (cell_of_row _ _ 0 _ _ _ qB).trans rfl
            have rB1 := (cell_of_row _ _ 1 _ _ _ qB).trans rfl
            have rB2 := (cell_of_row _ _ 2 _ _ _ qB).trans rfl
            have rB3 := (cell_of_row _ _ 3 _ _ _ qB).trans rfl
            refine bodyPost_ret (v := .tuple #[.agg #[.int .i64 0, .int .i64 0, .int .i64 0, .bool false], .agg #[.string ⟨#[]⟩, .string ⟨#[]⟩, .int .i64 0, .slice none 0 0], .int .i64 103]) (by simp [results, Try.results96, go_sem, rA0, rA1, rA2, rA3, rB0, rB1, rB2, rB3]) rfl ?_
            rw [HT.out]
            exact ⟨_, rfl, OwnS.nil _ _ _ _ _, eight_ext HX4.out HgA.out HgB.out⟩
          · have HT := hid (HT0.out.trans (if_neg hn2))
            obtain ⟨hl1, hl2, hl3⟩ := rightF_len hrt
            obtain ⟨gs, hgs, hsrc, hall⟩ := (HL.out.ext HX4.out).src Try.underlying23
            have hgl : gs.length = l.length := by rw [hgs, List.length_map]
            have hrest : (¬ 0 ≤ n) ∨ (0 ≤ n ∧ n = (m : Int)) := by omega
            have HGS := hid hgs
            have HGL := hid hgl
            clear hrt HT0 hn2 hl1 hsrc hall hgs hgl
            rcases hrest with hn3 | ⟨hn3, hn4⟩
            all_goals
              try (have hn5 : (n == (m : Int)) = true := by simp [hn4])
              try (have hn6 : (n != (m : Int)) = false := by simp [hn4])
              go_wp2_with fail
              refine (REntries_any w4 U r L (H.out.ext HX4.out) hN hL HB0.out).mono ?_
              rintro e w5 ⟨v5, S5, rfl, ho5, hS5, hx5⟩
              obtain ⟨pa, pc, rfl⟩ := ho5.slice
              rw [show (entsF L).length = evN L from rfl]
              have HA := hid ((Below.block hx5 gA (by omega)).trans HA.out)
              have HB := hid ((Below.block hx5 gB (by omega)).trans HB.out)
              have hz5 := hx5.size
              have HX5 := hid (HX4.out.trans hx5)
              obtain ⟨gs, hgs, hsrc, hall⟩ := (HL.out.ext (HX5.out.alloc (.cells #[] 46))).src Try.underlying23
              have hgl : gs.length = l.length := by rw [hgs, List.length_map]
              have HGS := hid hgs
              have HGL := hid hgl
              have HSRC := hid hsrc
              have HALL := hid hall
              have HM := hid (OwnS.made rE 46 w5 (fun k => S k ∧ k < w.heap.size) (fun h => by have := h.2; have := HX5.out.size; omega))
              have HSL := hid (show ∀ k, (S k ∧ k < w.heap.size) → k < (w5.alloc (.cells #[] 46)).heap.size from fun k hk => by have := HX5.out.size; simp; omega)
              have HY1 := hid (show (([] : List Ev).length + gs.length) * 48 ≤ 140737488355328 by simp only [List.length_nil]; omega)
              have HY2 := hid (show ([] : List Ev).length + gs.length ≤ 9223372036854775807 by simp only [List.length_nil]; omega)
              have HRA := hid (show gA < w5.heap.size ∧ gB < w5.heap.size by omega)
              clear ho5 hS5 hx5 hgs hgl hsrc hall
              go_wp2_with (at_builtin; go_must (refine wl_appS rE rfl _ _ _ _ _ _ 48 rfl Try.underlying23 infoEvt rfl w5.heap.size (fun k => S k ∧ k < w.heap.size) _ [] rfl HM.out _ gs rfl HSRC.out HALL.out HSL.out HY1.out HY2.out (by simp) ?_; intro v6 w6 k1 k2 k3; rw [List.nil_append, ← HGS.out] at k1; obtain ⟨va6, vc6, hv6⟩ := k1.slice; subst hv6; have hA6 := row_grown k2 HA.out; have hB6 := row_grown k2 HB.out; obtain ⟨⟨a0, a1, a2, a3⟩, fa0, fa1, fa2, fa3⟩ := row4 hA6; obtain ⟨⟨b0, b1, b2, b3⟩, fb0, fb1, fb2, fb3⟩ := row4 hB6; have HA6 := hid hA6; have HB6 := hid hB6; have K1 := hid k1; have HX6 := hid (HX5.out.trans (ext_grown k2)); clear k1 k2 k3 hA6 hB6))
              clear a0 fa0 a1 fa1 a2 fa2 a3 fa3 b0 fb0 b1 fb1 b2 fb2 b3 fb3
              obtain ⟨qA, qB⟩ := eight_cells (u0 := .int .i64 (m : Int)) (u1 := .int .i64 (evN L : Int)) (u2 := .int .i64 (l.length : Int)) (u3 := .bool false) (v0 := .string s) (v1 := .string k) (v2 := .int .i64 (m : Int)) (v3 := .slice va6 l.length vc6) HA6.out HB6.out hAB
              have rA0 := (cell_of_row _ _ 0 _ _ _ qA).trans rfl
              have rA1 := (cell_of_row _ _ 1 _ _ _ qA).trans rfl
              have rA2 := (cell_of_row _ _ 2 _ _ _ qA).trans rfl
              have rA3 := (cell_of_row _ _ 3 _ _ _ qA).trans rfl
              have rB0 := (cell_of_row _ _ 0 _ _ _ qB).trans rfl
              have rB1 := (cell_of_row _ _ 1 _ _ _ qB).trans rfl
              have rB2 := (cell_of_row _ _ 2 _ _ _ qB).trans rfl
              have rB3 := (cell_of_row _ _ 3 _ _ _ qB).trans rfl
              refine bodyPost_ret (v := .tuple #[.agg #[.int .i64 (m : Int), .int .i64 (evN L : Int), .int .i64 (l.length : Int), .bool false], .agg #[.string s, .string k, .int .i64 (m : Int), .slice va6 l.length vc6], .int .i64 0]) (by simp [results, Try.results96, go_sem, rA0, rA1, rA2, rA3, rB0, rB1, rB2, rB3]) rfl ?_
              rw [HT.out]
              exact ⟨_, rfl, (K1.out.kept (eight_keep (fun h => by rcases h with h | h; (have := h.2; have := HgA.out; omega); (have := (K1.out.lt _ h).1; have := HRA.out.1; omega)) (fun h => by rcases h with h | h; (have := h.2; have := HgB.out; omega); (have := (K1.out.lt _ h).1; have := HRA.out.2; omega)))).low HX5.out.size, eight_ext HX6.out HgA.out HgB.out⟩
    · skip
      by_cases hts : zs = s
      · have HT := hid (show tryR L s n k l = ((z1, z2, z3, true), bat0, 0) by unfold tryR; rw [if_neg (by rw [HNM.out]; simp), HZ.out]; simp [hts])
        subst hts
        have e1 := str_tt (a := zs) rfl
        have a0 : w1.cell? ⟨gA, 0, none⟩ = some (.int .i64 0) := (cell_of_row _ _ 0 _ _ _ HA.out).trans rfl
        have fa0 := frozen_blk HA.out 0
        have a1 : w1.cell? ⟨gA, 1, none⟩ = some (.int .i64 0) := (cell_of_row _ _ 1 _ _ _ HA.out).trans rfl
        have fa1 := frozen_blk HA.out 1
        have a2 : w1.cell? ⟨gA, 2, none⟩ = some (.int .i64 0) := (cell_of_row _ _ 2 _ _ _ HA.out).trans rfl
        have fa2 := frozen_blk HA.out 2
        have a3 : w1.cell? ⟨gA, 3, none⟩ = some (.bool false) := (cell_of_row _ _ 3 _ _ _ HA.out).trans rfl
        have fa3 := frozen_blk HA.out 3
        have b0 : w1.cell? ⟨gB, 0, none⟩ = some (.string ⟨#[]⟩) := (cell_of_row _ _ 0 _ _ _ HB.out).trans rfl
        have fb0 := frozen_blk HB.out 0
        have b1 : w1.cell? ⟨gB, 1, none⟩ = some (.string ⟨#[]⟩) := (cell_of_row _ _ 1 _ _ _ HB.out).trans rfl
        have fb1 := frozen_blk HB.out 1
        have b2 : w1.cell? ⟨gB, 2, none⟩ = some (.int .i64 0) := (cell_of_row _ _ 2 _ _ _ HB.out).trans rfl
        have fb2 := frozen_blk HB.out 2
        have b3 : w1.cell? ⟨gB, 3, none⟩ = some (.slice none 0 0) := (cell_of_row _ _ 3 _ _ _ HB.out).trans rfl
        have fb3 := frozen_blk HB.out 3
        go_wp2_with fail
        clear a0 fa0 a1 fa1 a2 fa2 a3 fa3 b0 fb0 b1 fb1 b2 fb2 b3 fb3
        obtain ⟨qA, qB⟩ := eight_cells (u0 := .int .i64 z1) (u1 := .int .i64 z2) (u2 := .int .i64 z3) (u3 := .bool true) (v0 := .string ⟨#[]⟩) (v1 := .string ⟨#[]⟩) (v2 := .int .i64 0) (v3 := .slice none 0 0) HA.out HB.out hAB
        have qA := (Below.block ((Ext.refl _).alloc ((.cells #[.int .i64 z1, .int .i64 z2, .int .i64 z3, .bool true] 29))) gA (Array.getElem?_eq_some_iff.1 qA).1).trans qA
        have qB := (Below.block ((Ext.refl _).alloc ((.cells #[.int .i64 z1, .int .i64 z2, .int .i64 z3, .bool true] 29))) gB (Array.getElem?_eq_some_iff.1 qB).1).trans qB
        have rA0 := (cell_of_row _ _ 0 _ _ _ qA).trans rfl
        have rA1 := (cell_of_row _ _ 1 _ _ _ qA).trans rfl
        have rA2 := (cell_of_row _ _ 2 _ _ _ qA).trans rfl
        have rA3 := (cell_of_row _ _ 3 _ _ _ qA).trans rfl
        have rB0 := (cell_of_row _ _ 0 _ _ _ qB).trans rfl
        have rB1 := (cell_of_row _ _ 1 _ _ _ qB).trans rfl
        have rB2 := (cell_of_row _ _ 2 _ _ _ qB).trans rfl
        have rB3 := (cell_of_row _ _ 3 _ _ _ qB).trans rfl
        refine bodyPost_ret (v := .tuple #[.agg #[.int .i64 z1, .int .i64 z2, .int .i64 z3, .bool true], .agg #[.string ⟨#[]⟩, .string ⟨#[]⟩, .int .i64 0, .slice none 0 0], .int .i64 0]) (by simp [results, Try.results96, go_sem, rA0, rA1, rA2, rA3, rB0, rB1, rB2, rB3]) rfl ?_
        rw [HT.out]
        exact ⟨_, rfl, OwnS.nil _ _ _ _ _, (eight_ext HX1.out HgA.out HgB.out).alloc _⟩
      · have HT := hid (show tryR L s n k l = (app0, bat0, 101) by unfold tryR; rw [if_neg (by rw [HNM.out]; simp), HZ.out]; simp [hts])
        have e1 := str_ff hts
        have a0 : w1.cell? ⟨gA, 0, none⟩ = some (.int .i64 0) := (cell_of_row _ _ 0 _ _ _ HA.out).trans rfl
        have fa0 := frozen_blk HA.out 0
        have a1 : w1.cell? ⟨gA, 1, none⟩ = some (.int .i64 0) := (cell_of_row _ _ 1 _ _ _ HA.out).trans rfl
        have fa1 := frozen_blk HA.out 1
        have a2 : w1.cell? ⟨gA, 2, none⟩ = some (.int .i64 0) := (cell_of_row _ _ 2 _ _ _ HA.out).trans rfl
        have fa2 := frozen_blk HA.out 2
        have a3 : w1.cell? ⟨gA, 3, none⟩ = some (.bool false) := (cell_of_row _ _ 3 _ _ _ HA.out).trans rfl
        have fa3 := frozen_blk HA.out 3
        have b0 : w1.cell? ⟨gB, 0, none⟩ = some (.string ⟨#[]⟩) := (cell_of_row _ _ 0 _ _ _ HB.out).trans rfl
        have fb0 := frozen_blk HB.out 0
        have b1 : w1.cell? ⟨gB, 1, none⟩ = some (.string ⟨#[]⟩) := (cell_of_row _ _ 1 _ _ _ HB.out).trans rfl
        have fb1 := frozen_blk HB.out 1
        have b2 : w1.cell? ⟨gB, 2, none⟩ = some (.int .i64 0) := (cell_of_row _ _ 2 _ _ _ HB.out).trans rfl
        have fb2 := frozen_blk HB.out 2
        have b3 : w1.cell? ⟨gB, 3, none⟩ = some (.slice none 0 0) := (cell_of_row _ _ 3 _ _ _ HB.out).trans rfl
        have fb3 := frozen_blk HB.out 3
        go_wp2_with fail
        clear a0 fa0 a1 fa1 a2 fa2 a3 fa3 b0 fb0 b1 fb1 b2 fb2 b3 fb3
        obtain ⟨qA, qB⟩ := eight_cells (u0 := .int .i64 0) (u1 := .int .i64 0) (u2 := .int .i64 0) (u3 := .bool false) (v0 := .string ⟨#[]⟩) (v1 := .string ⟨#[]⟩) (v2 := .int .i64 0) (v3 := .slice none 0 0) HA.out HB.out hAB
        have qA := (Below.block ((Ext.refl _).alloc ((.cells #[.int .i64 z1, .int .i64 z2, .int .i64 z3, .bool z4] 29))) gA (Array.getElem?_eq_some_iff.1 qA).1).trans qA
        have qB := (Below.block ((Ext.refl _).alloc ((.cells #[.int .i64 z1, .int .i64 z2, .int .i64 z3, .bool z4] 29))) gB (Array.getElem?_eq_some_iff.1 qB).1).trans qB
        have rA0 := (cell_of_row _ _ 0 _ _ _ qA).trans rfl
        have rA1 := (cell_of_row _ _ 1 _ _ _ qA).trans rfl
        have rA2 := (cell_of_row _ _ 2 _ _ _ qA).trans rfl
        have rA3 := (cell_of_row _ _ 3 _ _ _ qA).trans rfl
        have rB0 := (cell_of_row _ _ 0 _ _ _ qB).trans rfl
        have rB1 := (cell_of_row _ _ 1 _ _ _ qB).trans rfl
        have rB2 := (cell_of_row _ _ 2 _ _ _ qB).trans rfl
        have rB3 := (cell_of_row _ _ 3 _ _ _ qB).trans rfl
        refine bodyPost_ret (v := .tuple #[.agg #[.int .i64 0, .int .i64 0, .int .i64 0, .bool false], .agg #[.string ⟨#[]⟩, .string ⟨#[]⟩, .int .i64 0, .slice none 0 0], .int .i64 101]) (by simp [results, Try.results96, go_sem, rA0, rA1, rA2, rA3, rB0, rB1, rB2, rB3]) rfl ?_
        rw [HT.out]
        exact ⟨_, rfl, OwnS.nil _ _ _ _ _, (eight_ext HX1.out HgA.out HgB.out).alloc _⟩
end Go.Proofs.Ythobhkmphjnlaaa
