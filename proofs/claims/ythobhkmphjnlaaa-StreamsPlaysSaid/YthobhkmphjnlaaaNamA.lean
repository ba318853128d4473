/- Names of all streams: what they are, and what the call hands back. -/
import Derived.Test.YthobhkmphjnlaaaNamL
import Derived.Test.YthobhkmphjnlaaaStrF
import Derived.Sort.KeysCollected
namespace Go.Proofs.Ythobhkmphjnlaaa
open Go.RowKit Go.Maps Go.Sort Go.Shelf
set_option linter.unusedVariables false
set_option linter.unusedSimpArgs false

/-- the names of all streams, rising -/
def NamesAre (x : Ix) (l : List ByteArray) : Prop := l.Pairwise (fun a b => a.data.toList < b.data.toList) ∧ ∀ s : ByteArray, s ∈ l ↔ (s.size ≤ maxLen ∧ x.str s ≠ [])

theorem strKeys_are {H : Type} {P : Program} {k : TypeId} {R : Value → Option (DataW H × List MemPlace)} {w : World} {b n : Nat} {D : DataW H} (hown : w.ownsMap P k R b n D) (K : Keyed P k) (hk : P.underlying k = some .string) :
    (strKeys D).Nodup ∧ ∀ x, x ∈ strKeys D ↔ has D (.string x) = true := by
  obtain ⟨es, hD, hpw, _⟩ := hown.entries K
  obtain ⟨es', hD', hko⟩ := hown.keysOf
  obtain rfl : es = es' := by rw [hD] at hD'; simpa using hD'
  subst hD
  have hk' : ∀ p ∈ es, ∃ x, p.1 = .string x := fun p hp => by obtain ⟨v, hv⟩ := hko p hp; obtain ⟨x, _, hx, _⟩ := Maps.keyOf_str hk hv; exact ⟨x, hx⟩
  refine ⟨?_, fun x => ?_⟩
  · show (es.map fun p => strOf p.1).Nodup
    refine List.pairwise_map.2 (hpw.imp_of_mem fun {p q} hp' hq' hne e => hne ?_)
    obtain ⟨a, ha⟩ := hk' p hp'
    obtain ⟨b, hb⟩ := hk' q hq'
    rw [ha, hb] at e ⊢
    exact congrArg _ e
  · rw [has_eq, List.any_eq_true]
    show x ∈ es.map (fun p => strOf p.1) ↔ _
    rw [List.mem_map]
    constructor
    · rintro ⟨p, hp', rfl⟩
      obtain ⟨a, ha⟩ := hk' p hp'
      exact ⟨p, hp', by rw [ha]; simp [Lit.sameKey, strOf]⟩
    · rintro ⟨p, hp', hs⟩
      obtain ⟨a, ha⟩ := hk' p hp'
      rw [ha] at hs
      exact ⟨p, hp', by rw [ha]; simpa [Lit.sameKey, strOf] using hs⟩

def encBs (l : List UInt8) : ByteArray := ⟨l.toArray⟩
theorem encBs_inj {a b : List UInt8} (h : encBs a = encBs b) : a = b := by
  have := congrArg (fun x : ByteArray => x.data.toList) h
  simpa [encBs] using this

theorem sortedKeys {ss : List (List UInt8)} (hn : ss.Nodup) : ((ss.mergeSort leB).map encBs).Pairwise (fun a b => a.data.toList < b.data.toList) := by
  have tr : ∀ a b c : List UInt8, leB a b = true → leB b c = true → leB a c = true := fun a b c h1 h2 => by simp only [leB, decide_eq_true_eq] at *; exact List.le_trans h1 h2
  have tot : ∀ a b : List UInt8, (leB a b || leB b a) = true := fun a b => by simp only [leB, Bool.or_eq_true, decide_eq_true_eq]; exact List.le_total a b
  have hp := List.pairwise_mergeSort tr tot ss
  have hnd : (ss.mergeSort leB).Nodup := (List.mergeSort_perm ss leB).nodup_iff.2 hn
  refine List.pairwise_map.2 ((hp.and hnd).imp fun {a b} h => ?_)
  obtain ⟨h1, h2⟩ := h
  simp only [leB, decide_eq_true_eq] at h1
  show a < b
  by_cases h : a < b
  · exact h
  · exact absurd (List.le_antisymm h1 (List.not_lt.1 h)) h2

/-- slices.Sort's two contracts, at the fence that asks nothing. -/
theorem sortsA (m : Nat) : AnyZ.SortsIn Try.prog sortedA_ren Fence.wide m :=
  ⟨fun blk off cap ss W hH hblk hsz => callsIn_wide.2 (AnyM.slices_Sort_string sortA blk off cap ss W hH hblk hsz),
   fun p cap W => callsIn_wide.2 (AnyM.slices_Sort_string_none sortA p cap W)⟩

set_option maxRecDepth 100000 in
set_option maxHeartbeats 1000000 in
theorem Names_any (w : World) (g : Nat) (ρ : Nat → Option Rol) (ns nk : Nat) (x : Ix) (h : IxAt w g ρ ns nk x) (hns : ns ≤ 1000000) :
    Calls Try.prog 35 #[.pointer (some ⟨g, 0, none⟩)] w fun e w' => ∃ v l, e = .returned v ∧ OwnS rS 9 w' w.heap.size (fun _ => False) v l ∧ NamesAre x l ∧ l.length ≤ ns ∧ Ext w w' := by
  obtain ⟨va, gs, gk, ms, mk, h⟩ := h
  have c1 := h.c1
  obtain ⟨D, hown, hkeys⟩ := h.str
  have hhas := h.has
  have hglt := h.glt
  clear h
  have hbl := hown.lt
  have hmax : Maps.size D ≤ maxLen := Nat.le_trans hown.size_le (by unfold maxLen; omega)
  have hbytes : Maps.size D * 16 ≤ 140737488355328 := by have := hown.size_le; omega
  have hseq : SeqGives Fence.wide 2 Try.prog 95 #[.pointer (some ⟨w.heap.size, 0, none⟩)] encStr (fun ss => ss.Perm (strKeys D)) (Maps.size D) (w.alloc (.cells #[.map (some gs)] 82)) :=
    AnyZ.keys_gives (ρ := keysA_ren) { keysA with } Fence.wide _ trivial rfl (by omega) w.heap.size gs ns D _ (by simp) (by simp) (by
      obtain ⟨es, clock, hb, Ft, hs, hD⟩ := hown
      exact ⟨es, clock, (Below.heap_alloc _ _ gs hbl).trans hb, Ft, hs, hD⟩)
  have cK : ∀ mb W, CallsIn Fence.wide 5 Try.prog 72 #[.map mb] W fun e w' => e = .returned (.func (.func 95) #[] #[.pointer (some ⟨W.heap.size, 0, none⟩)]) ∧ w' = W.alloc (.cells #[.map mb] 82) := fun mb W => AnyZ.keys_in keysA Fence.wide 5 trivial rfl mb W
  have cS := AnyZ.sorted_in sortedA Fence.wide 5 trivial trivial trivial trivial rfl (by omega) (sortsA _) (enters_of Try.func94 (by kernel_rfl) rfl) 95 #[.pointer (some ⟨w.heap.size, 0, none⟩)] trivial (enters_of Try.func95 (by kernel_rfl) rfl) _ _ hmax hbytes _ hseq
  change CallsIn _ _ Try.prog 71 _ _ _ at cS
  have HOWN := hid hown
  have HKEYS := hid hkeys
  have HHAS := hid hhas
  clear hown hkeys hhas hseq hmax hbytes
  refine (callsIn_wide (n := 6)).1 ?_
  have hfK : Fence.wide.fn 72 := trivial
  have hfS : Fence.wide.fn 71 := trivial
  refine callsIn_of_wp Try.func35 rfl trivial ?_ rfl
  simp only [Try.ntmps35, List.size_toArray, List.length_cons, List.length_nil, Nat.reduceAdd, Nat.reduceSub, Array.replicate_succ, Array.replicate_zero, List.push_toArray, List.append_toArray, List.nil_append, List.cons_append]
  gi_wp2_with (first
    | (gi_at_call 72; refine (cK _ _).mono ?_; rintro e w' ⟨rfl, rfl⟩)
    | (gi_at_call 71; refine cS.mono ?_; rintro e w' ⟨v, ss, rfl, hS, hrow, hnil, hb⟩))
  go_ret
  obtain ⟨hnd, hmem⟩ := strKeys_are HOWN.out (Maps.string_keyed Try.underlying9) Try.underlying9
  have hnd2 : ss.Nodup := hS.nodup_iff.2 hnd
  have hln : (ss.mergeSort leB).length = ss.length := List.length_mergeSort ss
  refine ⟨v, (ss.mergeSort leB).map encBs, rfl, ⟨(ss.mergeSort leB).map (fun l => ([.string (encBs l)], encBs l)), by simp, ?_, fun k _ h => h, ?_⟩, ⟨sortedKeys hnd2, fun s => ?_⟩, ?_, ?_⟩
  · have hc : cellsOf ((ss.mergeSort leB).map (fun l => ([Value.string (encBs l)], encBs l))) = (ss.mergeSort leB).map encStr := by
      unfold cellsOf
      rw [List.flatMap_map]
      induction ss.mergeSort leB with
      | nil => rfl
      | cons a l ih => rw [List.flatMap_cons, ih]; rfl
    rw [hc, List.length_map, hln]
    exact ownsRow_base_a hrow (by simp)
  · intro p hp
    obtain ⟨l, hl, rfl⟩ := List.mem_map.1 hp
    refine ⟨rfl, ?_⟩
    have h1 := strKeys_le HOWN.out Try.underlying9 l (hS.subset ((List.mergeSort_perm ss leB).subset hl))
    show l.toArray.size ≤ _
    unfold maxLen at h1
    simpa using h1
  · constructor
    · intro hs
      obtain ⟨l, hl, rfl⟩ := List.mem_map.1 hs
      have hl2 : l ∈ strKeys D := hS.subset ((List.mergeSort_perm ss leB).subset hl)
      have h1 : (encBs l).size ≤ maxLen := by
        have h1 := strKeys_le HOWN.out Try.underlying9 l hl2
        show l.toArray.size ≤ _
        simpa using h1
      refine ⟨h1, (HHAS.out _ h1).1 ?_⟩
      have h2 := (hmem l).1 hl2
      rcases HKEYS.out (encBs l) h1 with ⟨_, e⟩ | ⟨u, e, _⟩
      · rw [show kStr.lit (encBs l) = .string l from by simp [kStr, encBs]] at e
        rw [h2] at e; cases e
      · rw [e]; rfl
    · rintro ⟨h1, h2⟩
      have h3 := (HHAS.out _ h1).2 h2
      rcases HKEYS.out s h1 with ⟨e, _⟩ | ⟨u, _, e, _⟩
      · rw [e] at h3; cases h3
      · have h4 := (hmem s.data.toList).2 e
        refine List.mem_map.2 ⟨s.data.toList, (List.mergeSort_perm ss leB).symm.subset (hS.symm.subset h4), ?_⟩
        show (⟨s.data.toList.toArray⟩ : ByteArray) = s
        simp
  · have h1 := HOWN.out.size_le
    have h2 := hS.length_eq
    obtain ⟨es, hD, _⟩ := HOWN.out.keysOf
    rw [List.length_map, hln, h2]
    rw [hD] at h1 ⊢
    show (es.map fun p => strOf p.1).length ≤ ns
    rw [List.length_map]
    exact h1
  · exact ((Ext.refl w).alloc _).trans (hb.mono (by simp))
end Go.Proofs.Ythobhkmphjnlaaa
