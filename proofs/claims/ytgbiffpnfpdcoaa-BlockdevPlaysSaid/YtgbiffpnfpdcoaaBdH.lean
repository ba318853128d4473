/- blockdev.Pending, walked. -/
import Derived.Test.YtgbiffpnfpdcoaaBdF
import Derived.Test.YtgbiffpnfpdcoaaNamI
import Derived.Lib.SlKeysI
namespace Go.Proofs.Ytgbiffpnfpdcoaa
open Go.RowKit Go.Maps Go.Sort Go.Shelf
set_option linter.unusedVariables false
set_option linter.unusedSimpArgs false

/-- the blocks with writes that are pending, rising -/
def pendN (d : Dv) : List Nat := (List.range d.safe.length).filter fun (k : Nat) => decide (d.pend (k : Int) ≠ [])
def pendL (d : Dv) : List Int := (pendN d).map fun (k : Nat) => (k : Int)
theorem pendN_mem {d : Dv} {k : Nat} : k ∈ pendN d ↔ k < d.safe.length ∧ d.pend (k : Int) ≠ [] := by
  unfold pendN; rw [List.mem_filter, List.mem_range]; simp
theorem pendN_lt (d : Dv) : (pendN d).Pairwise (· < ·) := by
  unfold pendN
  exact List.Pairwise.filter _ (List.pairwise_lt_range)
theorem pendN_len (d : Dv) : (pendN d).length ≤ d.safe.length := by
  unfold pendN
  exact Nat.le_trans (List.length_filter_le _ _) (by rw [List.length_range]; exact Nat.le_refl _)
theorem pendL_lt (d : Dv) : (pendL d).Pairwise (· < ·) := by
  unfold pendL
  rw [List.pairwise_map]
  exact (pendN_lt d).imp fun h => by omega
theorem pendL_mem {d : Dv} (hr : ∀ n, d.pend n ≠ [] → 0 ≤ n ∧ n < d.safe.length) {x : Int} : x ∈ pendL d ↔ d.pend x ≠ [] := by
  unfold pendL
  rw [List.mem_map]
  constructor
  · rintro ⟨k, hk, rfl⟩; exact (pendN_mem.1 hk).2
  · intro h
    obtain ⟨h1, h2⟩ := hr x h
    obtain ⟨k, rfl⟩ : ∃ k : Nat, x = k := ⟨x.toNat, by omega⟩
    exact ⟨k, pendN_mem.2 ⟨by omega, h⟩, rfl⟩
theorem pendL_sort (d : Dv) : (pendL d).mergeSort leI = pendL d := by
  refine List.mergeSort_of_pairwise ?_
  exact (pendL_lt d).imp fun h => by simp only [leI, decide_eq_true_eq]; omega
theorem pendL_len (d : Dv) : (pendL d).length = (pendN d).length := by unfold pendL; rw [List.length_map]

theorem Pending_nil (w : World) : Calls Try.prog 33 #[.pointer none] w fun e w' => e = .returned (.slice none 0 0) ∧ w = w' := by
  go_enter Try.func33, Try.ntmps33
  go_wp2_with fail
  go_ret
  exact ⟨rfl, rfl⟩

theorem sortsI (m : Nat) : AnyZI.SortsIn Try.prog sortedI_ren Fence.wide m :=
  ⟨fun blk off cap ss W hH hblk hsz => callsIn_wide.2 (AnyM.slices_Sort_int sortI blk off cap ss W hH hblk hsz),
   fun p cap W => callsIn_wide.2 (AnyM.slices_Sort_int_none sortI p cap W)⟩

set_option maxRecDepth 100000 in
set_option maxHeartbeats 1000000 in
theorem Pending_any (w : World) (g : Nat) (ρ : Nat → Option DRol) (N : Nat) (d : Dv) (h : DvAt w g ρ N d) (hN : N ≤ 1000000000) :
    Calls Try.prog 33 #[.pointer (some ⟨g, 0, none⟩)] w fun e w' => ∃ v, e = .returned v ∧ OwnS rI 3 w' w.heap.size (fun _ => False) v (pendL d) ∧ Ext w w' := by
  obtain ⟨vs, gm, m, h⟩ := h
  have c1 := h.c1
  obtain ⟨D, hown, hkeys⟩ := h.map
  have HHAS := hid h.has
  have HRNG := hid h.rng
  have hglt := h.glt
  have hsz : d.safe.length ≤ 512 := h.size.2
  clear h
  have hbl := hown.lt
  have hmax : Maps.size D ≤ maxLen := Nat.le_trans hown.size_le (by unfold maxLen; omega)
  have hbytes : Maps.size D * 8 ≤ 140737488355328 := by have := hown.size_le; omega
  have hseq : SeqGives Fence.wide 2 Try.prog 86 #[.pointer (some ⟨w.heap.size, 0, none⟩)] encZ (fun ss => ss.Perm (intKeys D)) (Maps.size D) (w.alloc (.cells #[.map (some gm)] 90)) :=
    AnyZI.keys_gives (ρ := keysI_ren) { keysI with } Fence.wide _ trivial rfl (by omega) w.heap.size gm N D _ (by simp) (by simp) (by
      obtain ⟨es, clock, hb, Ft, hs, hD⟩ := hown
      exact ⟨es, clock, (Below.heap_alloc _ _ gm hbl).trans hb, Ft, hs, hD⟩)
  have cK : ∀ mb W, CallsIn Fence.wide 5 Try.prog 58 #[.map mb] W fun e w' => e = .returned (.func (.func 86) #[] #[.pointer (some ⟨W.heap.size, 0, none⟩)]) ∧ w' = W.alloc (.cells #[.map mb] 90) := fun mb W => AnyZI.keys_in keysI Fence.wide 5 trivial rfl mb W
  have cS := AnyZI.sorted_in sortedI Fence.wide 5 trivial trivial trivial trivial rfl (by omega) (sortsI _) (enters_of Try.func85 (by kernel_rfl) rfl) 86 #[.pointer (some ⟨w.heap.size, 0, none⟩)] trivial (enters_of Try.func86 (by kernel_rfl) rfl) _ _ hmax hbytes _ hseq
  change CallsIn _ _ Try.prog 57 _ _ _ at cS
  have HOWN := hid hown
  have HKEYS := hid hkeys
  clear hown hkeys hseq hmax hbytes
  refine (callsIn_wide (n := 6)).1 ?_
  have hfK : Fence.wide.fn 58 := trivial
  have hfS : Fence.wide.fn 57 := trivial
  refine callsIn_of_wp Try.func33 rfl trivial ?_ rfl
  simp only [Try.ntmps33, List.size_toArray, List.length_cons, List.length_nil, Nat.reduceAdd, Nat.reduceSub, Array.replicate_succ, Array.replicate_zero, List.push_toArray, List.append_toArray, List.nil_append, List.cons_append]
  gi_wp2_with (first
    | (gi_at_call 58; refine (cK _ _).mono ?_; rintro e w' ⟨rfl, rfl⟩)
    | (gi_at_call 57; refine cS.mono ?_; rintro e w' ⟨v, ss, rfl, hS, hrow, hnil, hb⟩))
  go_ret
  obtain ⟨es, hD, hpw, _⟩ := HOWN.out.entries (int_keyed Try.underlying3)
  obtain ⟨es', hD', hko⟩ := HOWN.out.keysOf
  obtain rfl : es = es' := by rw [hD] at hD'; simpa using hD'
  subst hD
  have hk' : ∀ p ∈ es, ∃ x : Int, p.1 = .int .i64 x ∧ kInt.ok x := fun p hp => by
    obtain ⟨v, hv⟩ := hko p hp
    obtain ⟨x, _, hx, hw⟩ := Maps.keyOf_i64 Try.underlying3 hv
    refine ⟨x, hx, ?_⟩
    have hw : (decide (IntKind.i64.min ≤ x) && decide (x ≤ IntKind.i64.max)) = true := hw
    rw [Bool.and_eq_true, decide_eq_true_eq, decide_eq_true_eq] at hw
    exact hw
  have hmem : ∀ x, x ∈ pendL d ↔ has (.map es) (.int .i64 x) = true := fun x => by
    rw [pendL_mem HRNG.out]
    constructor
    · intro hp
      have hr := HRNG.out x hp
      have hok : kInt.ok x := ⟨by omega, by omega⟩
      have h1 := (HHAS.out x hok).2 hp
      rcases HKEYS.out x hok with ⟨e, _⟩ | ⟨u, _, e, _⟩
      · rw [e] at h1; cases h1
      · exact e
    · intro hh
      have hok : kInt.ok x := by
        rw [has_eq, List.any_eq_true] at hh
        obtain ⟨p, hp, hs⟩ := hh
        obtain ⟨a, ha, hok⟩ := hk' p hp
        rw [ha] at hs
        have : a = x := by simpa [Lit.sameKey] using hs
        exact this ▸ hok
      refine (HHAS.out x hok).1 ?_
      rcases HKEYS.out x hok with ⟨_, e⟩ | ⟨u, e, _⟩
      · rw [show kInt.lit x = .int .i64 x from rfl, hh] at e; cases e
      · rw [e]; rfl
  have hperm := perm_intKeys hpw (fun p hp => by obtain ⟨x, hx, _⟩ := hk' p hp; exact ⟨x, hx⟩) ((pendL_lt d).imp fun h => by omega) hmem
  have hss : ss.mergeSort leI = pendL d := (mergeSort_of_perm_i (hS.trans hperm.symm)).trans (pendL_sort d)
  have hln : ss.length = (pendL d).length := by rw [← hss, List.length_mergeSort]
  change World.ownsRow _ _ _ _ _ _ ((ss.mergeSort leI).map encZ) at hrow
  rw [hss, hln] at hrow
  refine ⟨v, rfl, ⟨(pendL d).map (fun x => ([encZ x], x)), by rw [List.map_map]; exact (List.map_id' _).symm, ?_, fun k _ h => h, fun p hp => ?_⟩, ((Ext.refl w).alloc _).trans (hb.mono (by simp))⟩
  · have hc : cellsOf ((pendL d).map (fun x => ([encZ x], x))) = (pendL d).map encZ := by
      unfold cellsOf
      rw [List.flatMap_map]
      induction pendL d with
      | nil => rfl
      | cons a l ih => rw [List.flatMap_cons, ih]; rfl
    rw [hc, List.length_map]
    exact ownsRow_base_a hrow (by simp)
  · obtain ⟨x, hx, rfl⟩ := List.mem_map.1 hp
    have hr := HRNG.out x ((pendL_mem HRNG.out).1 hx)
    exact ⟨rfl, by dsimp only; omega, by dsimp only; omega⟩
end Go.Proofs.Ytgbiffpnfpdcoaa
