/- blockdev.Copy, walked. -/
import Derived.Test.YtgbiffpnfpdcoaaBdH
import Derived.Test.YtgbiffpnfpdcoaaAppZ
import Derived.Lib.LazyBuf
namespace Go.Proofs.Ytgbiffpnfpdcoaa
open Go.RowKit Go.Maps Go.Sort Go.Shelf
set_option linter.unusedVariables false
set_option linter.unusedSimpArgs false

theorem RdS.src {α : Type} {r : Rdr α} {w : World} {S : Nat → Prop} {v : Value} {xs : List α} {tx t : TypeId} (hu : Try.prog.underlying tx = some (.slice t)) (h : RdS r w S v xs) : ∃ gs : List (List Value × α), xs = gs.map (·.2) ∧ Src Try.prog r.size tx v gs.length (cellsOf gs) w ∧ ∀ p ∈ gs, r.rd w S p.1 p.2 := by
  obtain ⟨v', gs, e, rfl, h1, h2, h3⟩ := h
  obtain rfl := List.singleton_inj.1 e
  refine ⟨gs, rfl, src_rd hu h1 (fun u hu => ?_), h3⟩
  obtain ⟨p, hp, hu⟩ := List.mem_flatMap.1 hu
  exact r.one (h3 p hp) u hu
theorem OwnS.made {α : Type} (r : Rdr α) (t : TypeId) (w : World) (S : Nat → Prop) (hS : ¬ S w.heap.size) : OwnS r t (w.alloc (.cells #[] t)) w.heap.size S (.slice (some ⟨w.heap.size, 0, none⟩) 0 0) [] :=
  ⟨[], rfl, World.ownsRow_made w #[] 0 (Nat.le_refl _) (by simp [maxLen]) (by simp), fun k hk => by simp only [Value.ownBlock, Option.map_some, Option.some.injEq] at hk; subst hk; exact hS, by simp⟩

set_option maxRecDepth 100000 in
set_option maxHeartbeats 1000000 in
theorem CloneBk_any (w : World) (S : Nat → Prop) (v : Value) (fs : List Bk) (h : RdS rBk w S v fs) (hl : fs.length ≤ 2000000000) :
    Calls Try.prog 59 #[v] w fun e w' => ∃ v', e = .returned v' ∧ OwnS rBk 102 w' w.heap.size (fun _ => False) v' fs ∧ Ext w w' := by
  have hnil := fun w => Lib.run_eql_slice_nil (P := Try.prog) w
  obtain ⟨a, cap, rfl, hc1, hc2⟩ := h.slice
  have H := hid h
  cases a with
  | none =>
    have h0 : fs = [] := by
      cases fs with
      | nil => rfl
      | cons f fs => obtain ⟨g, o, cap', cs, e, _⟩ := h.at 0 (by simp); simp at e
    subst h0
    clear h
    go_enter Try.func59, Try.ntmps59
    go_wp2_with fail
    go_ret
    exact ⟨_, rfl, OwnS.nil _ _ _ _ _, Ext.refl _⟩
  | some a =>
    obtain ⟨gs, hgs, hsrc, hall⟩ := (h.ext ((Ext.refl w).alloc (.cells #[] 102))).src Try.underlying89
    have HG := hid hgs
    have hgl : gs.length = fs.length := by rw [hgs, List.length_map]
    have HSRC := hid hsrc
    have HALL := hid hall
    have HGL := hid hgl
    have HA := OwnS.made rBk 102 w (fun _ => False) (fun h => h)
    clear h hgs hsrc hall hgl
    go_enter Try.func59, Try.ntmps59
    go_wp2_with (at_builtin; go_must (refine wl_appS rBk rfl _ _ _ _ _ zBk 512 rfl Try.underlying89 infoBk (by simp [zBk, Value.cells, rBk]) w.heap.size _ _ [] rfl HA _ gs rfl HSRC.out (fun p hp => rBk_free (HALL.out p hp)) (fun _ h => h.elim) (by have := HGL.out; simp only [List.length_nil, Nat.zero_add]; omega) (by have := HGL.out; simp only [List.length_nil, Nat.zero_add]; omega) (by simp) ?_; intro v' w' k1 k2 k3; rw [List.nil_append, ← HG.out] at k1))
    go_ret
    exact ⟨_, rfl, k1, ((Ext.refl w).alloc _).grown k2 (fun k hk => by cases hk; exact Nat.le_refl _)⟩

/-- behind 'c.pending[n] = slices.Clone(l)', at a block of which nothing was pending -/
theorem DvP.put {w wB w' : World} {g : Nat} {ρ : Nat → Option DRol} {N : Nat} {d : Dv} {vs : Value} {gm : Nat} {m : Int → Option Value} (h : DvP w g ρ N d vs gm m) {n : Int} (hn : kInt.ok n) (hr : 0 ≤ n ∧ n < d.safe.length) {l : List Bk} {v' : Value} {N' : Nat} (hl0 : l ≠ []) (hl : l.length ≤ N') (hNN : N ≤ N') (hxB : Ext w wB)
    (hp0 : d.pend n = []) (hm0 : m n = none) (ho : OwnS rBk 102 wB 0 (fun _ => False) v' l) (hv' : ∀ k, v'.ownBlock = some k → w.heap.size ≤ k)
    (hm : MapG kInt w' gm N' (upd m n v')) (hg : wB.grownBy w' (some gm)) :
    DvP w' g (rolW ρ v' n) N' { d with pend := setP d.pend n l } vs gm (upd m n v') ∧ Keep (fun k => k ≠ gm) w w' ∧ (∀ k, rolW ρ v' n k ≠ none → ρ k ≠ none ∨ w.heap.size ≤ k) := by
  have hkC : Keep (fun j => j ≠ gm) wB w' := (keep_grown hg).mono fun j hj _ e => hj (Option.some.inj e)
  have hk : Keep (fun j => j ≠ gm) w w' := (hxB.keep _).trans hkC
  have hold : ∀ k, ρ k ≠ none → ¬ v'.ownBlock = some k := fun k h1 e => by
    have := hv' k e
    have := h.lt k h1
    omega
  have hro : ∀ k r, ρ k = some r → rolW ρ v' n k = some r := fun k r h1 => by
    unfold rolW
    rw [if_neg (hold k (by rw [h1]; simp))]
    exact h1
  have hgm : gm < w.heap.size := h.map.lt
  have hvlt : ∀ k, v'.ownBlock = some k → k < w'.heap.size := fun k hkk => Nat.lt_of_lt_of_le (ho.lt k hkk).2 hkC.size
  refine ⟨{
    head := by rw [hk.block g h.ne h.glt]; exact h.head
    rg := hro g _ h.rg
    safe := h.safe.kept (hk.mono fun j hj _ => by
      rcases hj with hj | hj
      · exact hj.elim
      · exact (h.nvs j hj).2)
    rsafe := fun k hkk => hro k _ (h.rsafe k hkk)
    map := hm
    rm := hro gm _ h.rm
    pend := fun t ht => ?_
    rpend := fun t ht k hkk => ?_
    has := fun t ht => ?_
    rng := fun t ht => ?_
    lt := fun k hr => ?_
    size := h.size
    fuse := h.fuse
    ops := ⟨h.ops.1, by have := h.ops.2; dsimp only; omega⟩
    long := fun t => ?_ }, hk, fun k hr => ?_⟩
  · by_cases e : t = n
    · subst e
      rw [upd_same]
      simp only [setP, if_true, Option.getD_some]
      refine ho.kept (hkC.mono fun j hj _ e => ?_)
      subst e
      rcases hj with hj | hj
      · exact hj.elim
      · have := hv' _ hj; omega
    · rw [upd_other _ _ e]
      simp only [setP, if_neg e]
      refine (h.pend t ht).kept (hk.mono fun j hj _ e' => ?_)
      rcases hj with hj | hj
      · exact hj.elim
      · have h1 := h.rpend t ht j hj
        rw [e', h.rm] at h1
        simp at h1
  · by_cases e : t = n
    · subst e
      rw [upd_same] at hkk
      simp only [Option.getD_some] at hkk
      unfold rolW
      rw [if_pos hkk]
    · rw [upd_other _ _ e] at hkk
      exact hro k _ (h.rpend t ht k hkk)
  · by_cases e : t = n
    · subst e
      rw [upd_same]; simp [setP, hl0]
    · rw [upd_other _ _ e]
      simp only [setP, if_neg e]
      exact h.has t ht
  · by_cases e : t = n
    · subst e; exact hr
    · simp only [setP, if_neg e] at ht
      exact h.rng t ht
  · unfold rolW at hr
    split at hr
    · rename_i e; exact hvlt k e
    · exact Nat.lt_of_lt_of_le (h.lt k hr) hk.size
  · by_cases e : t = n
    · subst e; simp only [setP, if_true]; exact hl
    · simp only [setP, if_neg e]; exact Nat.le_trans (h.long t) hNN
  · unfold rolW at hr
    split at hr
    · rename_i e; exact .inr (hv' k e)
    · exact .inl hr

/-- the map of a device has no more entries than the device has blocks -/
theorem DvP.tight {w : World} {g : Nat} {ρ : Nat → Option DRol} {N : Nat} {d : Dv} {vs : Value} {gm : Nat} {m : Int → Option Value} (h : DvP w g ρ N d vs gm m) : MapG kInt w gm 512 m := by
  obtain ⟨D, hown, hkeys⟩ := h.map
  obtain ⟨es, hD, hpw, _⟩ := hown.entries (int_keyed Try.underlying3)
  obtain ⟨es', hD', hko⟩ := hown.keysOf
  obtain rfl : es = es' := by rw [hD] at hD'; simpa using hD'
  subst hD
  have hsz := h.size.2
  have hk' : ∀ p ∈ es, ∃ x : Int, p.1 = .int .i64 x ∧ kInt.ok x := fun p hp => by
    obtain ⟨v, hv⟩ := hko p hp
    obtain ⟨x, _, hx, hw⟩ := Maps.keyOf_i64 Try.underlying3 hv
    refine ⟨x, hx, ?_⟩
    have hw : (decide (IntKind.i64.min ≤ x) && decide (x ≤ IntKind.i64.max)) = true := hw
    rw [Bool.and_eq_true, decide_eq_true_eq, decide_eq_true_eq] at hw
    exact hw
  have hmem : ∀ x, x ∈ pendL d ↔ Maps.has (DataW.map es) (Lit.int .i64 x) = true := fun x => by
    rw [pendL_mem h.rng]
    constructor
    · intro hp
      have hr := h.rng x hp
      have hok : kInt.ok x := ⟨by omega, by omega⟩
      have h1 := (h.has x hok).2 hp
      rcases hkeys x hok with ⟨e, _⟩ | ⟨u, _, e, _⟩
      · rw [e] at h1; cases h1
      · exact e
    · intro hh
      have hok : kInt.ok x := by
        rw [Maps.has_eq, List.any_eq_true] at hh
        obtain ⟨p, hp, hs⟩ := hh
        obtain ⟨a, ha, hok⟩ := hk' p hp
        rw [ha] at hs
        have : a = x := by simpa [Lit.sameKey] using hs
        exact this ▸ hok
      refine (h.has x hok).1 ?_
      rcases hkeys x hok with ⟨_, e⟩ | ⟨u, e, _⟩
      · rw [show kInt.lit x = .int .i64 x from rfl, hh] at e; cases e
      · rw [e]; rfl
  have hperm := perm_intKeys hpw (fun p hp => by obtain ⟨x, hx, _⟩ := hk' p hp; exact ⟨x, hx⟩) ((pendL_lt d).imp fun h => by omega) hmem
  have hlen : es.length ≤ 512 := by
    have h1 := hperm.length_eq
    have h2 : (intKeys (DataW.map es)).length = es.length := List.length_map ..
    have h3 := pendN_len d
    rw [pendL_len] at h1
    omega
  obtain ⟨es2, clock, hb, F, hs, hD⟩ := hown
  have hse : es2.size = es.length := by
    have := DataW.map.inj hD
    rw [this, length_sorted]
    simp
  exact ⟨DataW.map es, ⟨es2, clock, hb, F, by omega, hD⟩, hkeys⟩
theorem DvP.norm {w : World} {g : Nat} {ρ : Nat → Option DRol} {N : Nat} {d : Dv} {vs : Value} {gm : Nat} {m : Int → Option Value} (h : DvP w g ρ N d vs gm m) {N0 : Nat} (h1 : d.ops ≤ N0) (h2 : ∀ n, (d.pend n).length ≤ N0) (h3 : 512 ≤ N0) : DvP w g ρ N0 d vs gm m :=
  { h with map := h.tight.mono h3, ops := ⟨h.ops.1, h1⟩, long := h2 }

/-- what is pending in the copy, while those that 'left' names are still to come -/
def restP (d : Dv) (left : Lit → Bool) : Int → List Bk := fun t => if left (.int .i64 t) = true then [] else d.pend t
theorem restP_end {d : Dv} {left : Lit → Bool} (h : ∀ x : Int, left (.int .i64 x) = false) : restP d left = d.pend := by
  funext t; unfold restP; rw [h, if_neg (by simp)]
theorem restP_step {d : Dv} {left : Lit → Bool} {x : Int} : restP d (fun z => left z && !z.sameKey (.int .i64 x)) = setP (restP d left) x (d.pend x) := by
  funext t
  unfold restP setP
  by_cases e : t = x
  · subst e; rw [strike_same, if_neg (by simp), if_pos rfl]
  · rw [strike_other left e, if_neg e]
theorem restP_start {w : World} {g : Nat} {ρ : Nat → Option DRol} {N : Nat} {d : Dv} {vs : Value} {gm : Nat} {m : Int → Option Value} (h : DvP w g ρ N d vs gm m) {left : Lit → Bool} (hl : leftAll kInt m left) : restP d left = fun _ => [] := by
  funext t
  unfold restP
  by_cases hp : d.pend t = []
  · rw [hp, ite_self]
  · have hr := h.rng t hp
    have hs := h.size.2
    have ht : kInt.ok t := ⟨by omega, by omega⟩
    have h1 := hl t ht
    rw [(h.has t ht).2 hp] at h1
    rw [show (Lit.int .i64 t) = kInt.lit t from rfl, h1, if_pos rfl]

theorem row_ext' {W1 W2 : World} (hx : Ext W1 W2) {k : Nat} {x : Obj} (hr : W1.heap[k]? = some x) : W2.heap[k]? = some x := (Below.block hx k (Array.getElem?_eq_some_iff.1 hr).1).trans hr
set_option maxRecDepth 100000 in
set_option maxHeartbeats 2000000 in
theorem Copy_any (w : World) (g : Nat) (ρ : Nat → Option DRol) (N : Nat) (d : Dv) (h : DvAt w g ρ N d) (hN : N ≤ 1000000000) :
    Calls Try.prog 37 #[.pointer (some ⟨g, 0, none⟩)] w fun e w' => ∃ g' ρ', e = .returned (.pointer (some ⟨g', 0, none⟩)) ∧ DvAt w' g' ρ' (N + 1000) d ∧ (∀ k, ρ' k ≠ none → w.heap.size ≤ k) ∧ Ext w w' := by
  obtain ⟨vs, gm, m, hp⟩ := h
  obtain ⟨va, vc, rfl⟩ := hp.safe.slice
  have c0 := hp.c0
  have c1 := hp.c1
  have c2 := hp.c2
  have c3 := hp.c3
  have c4 := hp.c4
  have hgl := hp.glt
  have HP := hid hp
  have hmm := @run_makeMap Try.prog
  clear hp
  go_enter Try.func37, Try.ntmps37
  go_wp2_with fail
  obtain ⟨w1, hw1⟩ : ∃ w1, w1 = w.alloc (.cells #[.slice va d.safe.length vc, .map (some gm), .int .i64 d.fuse, .bool d.down, .int .i64 d.ops] 92) := ⟨_, rfl⟩
  rw [← hw1]
  have hx1 : Ext w w1 := by rw [hw1]; exact (Ext.refl _).alloc _
  have hr1 : w1.heap[w.heap.size]? = some (.cells #[.slice va d.safe.length vc, .map (some gm), .int .i64 d.fuse, .bool d.down, .int .i64 d.ops] 92 (0, 0)) := by rw [hw1]; exact heap_alloc_new _ _
  have hs1 : w1.heap.size = w.heap.size + 1 := by rw [hw1]; simp
  clear hw1
  obtain ⟨g', hg'⟩ : ∃ g', g' = w.heap.size := ⟨_, rfl⟩
  rw [← hg'] at hr1 ⊢
  have hsz := HP.out.size
  refine (CloneBk_any w1 _ _ d.safe ((HP.out.safe.ext hx1).rd) (by omega)).mono ?_
  rintro e w2 ⟨v2, rfl, ho2, hx2⟩
  obtain ⟨gs', sc', e, hgs2, -, -⟩ := ho2.atBk 0 (by omega)
  subst e
  have hgs1 : w1.heap.size ≤ gs' := (ho2.lt gs' rfl).1
  have hr2 := row_ext' hx2 hr1
  have k0 : w2.cell? ⟨g', 0, none⟩ = some (.slice va d.safe.length vc) := (cell_of_row _ _ _ _ _ _ hr2).trans rfl
  have k1 : w2.cell? ⟨g', 1, none⟩ = some (.map (some gm)) := (cell_of_row _ _ _ _ _ _ hr2).trans rfl
  have f0 := blk_fro hr2 0
  have f1 := blk_fro hr2 1
  have hgl2 : g' < w2.heap.size := by have := hx2.size; omega
  have c1' : w2.cell? ⟨g, 1, none⟩ = some (.map (some gm)) := (hx1.trans hx2).cellS c1
  have hgg : ¬ g' = g := by omega
  have hgg2 : ¬ g = g' := by omega
  have hgl2' : g < w2.heap.size := by omega
  have HG' := hid hg'
  clear hg'
  obtain ⟨W5, hW5⟩ : ∃ W5, W5 = ((w2.setCell ⟨g', 0, none⟩ (.slice (some ⟨gs', 0, none⟩) d.safe.length sc')).setCell ⟨g', 1, none⟩ (.map (some w2.heap.size))).alloc (.map #[] 0) := ⟨_, rfl⟩
  have hs5 : W5.heap.size = w2.heap.size + 1 := by rw [hW5]; simp
  have hk5 : Keep (fun k => k ≠ g') w2 W5 := by
    rw [hW5]
    exact (((Keep.refl _ w2).setCell (by simp) _).setCell (by simp) _).trans (((Ext.refl _).alloc _).keep _)
  have hx5 : Ext w W5 := Keep.ext ((((hx1.trans hx2).keep (fun k => k < w.heap.size))).trans (hk5.mono fun k hk _ => by have := HG'.out; omega) |>.mono fun k _ hl => hl)
  have hr5 : W5.heap[g']? = some (.cells #[.slice (some ⟨gs', 0, none⟩) d.safe.length sc', .map (some w2.heap.size), .int .i64 d.fuse, .bool d.down, .int .i64 d.ops] 92 (0, 0)) := by
    rw [hW5]
    exact (Below.heap_alloc _ _ g' (by simp; exact hgl2)).trans ((blk_set (o := 1) (blk_set (o := 0) hr2 _) _).trans rfl)
  have hm5 : MapG kInt W5 w2.heap.size 0 (fun _ => none) := by
    have := MapG.made kInt ((w2.setCell ⟨g', 0, none⟩ (.slice (some ⟨gs', 0, none⟩) d.safe.length sc')).setCell ⟨g', 1, none⟩ (.map (some w2.heap.size)))
    rw [← hW5] at this
    simpa using this
  have hq1 : ¬ g' = gs' := by have := HG'.out; omega
  have hq2 : ¬ g' = w2.heap.size := by omega
  have hq3 : ¬ w2.heap.size = gs' := by omega
  have ho5 := ho2.kept (hk5.mono fun k hk _ e => by
    rcases hk with hk | hk
    · exact hk.elim
    · simp only [Value.ownBlock, Option.some.injEq] at hk; omega)
  have hpN := HP.out.ops
  have hC5 : DvP W5 g' (fun k => if k = gs' then some .safe else if k = w2.heap.size then some .pmap else if k = g' then some .dev else none) (N + 600) { d with pend := fun _ => [] } (.slice (some ⟨gs', 0, none⟩) d.safe.length sc') w2.heap.size (fun _ => none) := {
    head := hr5
    rg := by simp [hq1, hq2]
    safe := ho5.low (Nat.zero_le _)
    rsafe := fun k hk => by
      simp only [Value.ownBlock, Option.some.injEq] at hk
      simp [← hk]
    map := hm5.mono (by omega)
    rm := by simp [hq3]
    pend := fun s hs => OwnS.nil _ _ _ _ _
    rpend := fun s hs k hk => by simp [nilS, Value.ownBlock] at hk
    has := fun s hs => by simp
    rng := fun s hs => by simp at hs
    lt := fun k hk => by
      try simp only at hk
      split at hk
      · omega
      · split at hk
        · omega
        · split at hk
          · omega
          · exact absurd rfl hk
    size := HP.out.size
    fuse := HP.out.fuse
    ops := ⟨hpN.1, by dsimp only; omega⟩
    long := fun s => by simp }
  have hn5 : ∀ k, (if k = gs' then some DRol.safe else if k = w2.heap.size then some .pmap else if k = g' then some .dev else none) ≠ none → w.heap.size ≤ k ∧ k < W5.heap.size := fun k hk => by
    have := HG'.out
    split at hk
    · omega
    · split at hk
      · omega
      · split at hk
        · omega
        · exact absurd rfl hk
  obtain ⟨w6, left, cnt, hrun, hmr, hla, hx6, hs6⟩ := (HP.out.ext hx5).map.range Try.underlying90
  have hrs := restP_start HP.out hla
  generalize hρ5 : (fun k => if k = gs' then some DRol.safe else if k = w2.heap.size then some .pmap else if k = g' then some .dev else none) = ρ5 at hC5
  have hn5' : ∀ k, ρ5 k ≠ none → w.heap.size ≤ k ∧ k < W5.heap.size := fun k hk => hn5 k (by rw [← hρ5] at hk; exact hk)
  have HC6 := hid (hC5.ext hx6)
  have HN5 := hid hn5'
  have HMR := hid hmr
  have HRS := hid hrs
  have HX6 := hid (hx5.trans hx6)
  have HS6 := hid hs6
  obtain ⟨gm', hgm'⟩ : ∃ gm', gm' = w2.heap.size := ⟨_, rfl⟩
  obtain ⟨r, hr⟩ : ∃ r, r = W5.heap.size := ⟨_, rfl⟩
  rw [← hr] at hrun HMR HN5
  rw [← hgm'] at HC6
  rw [hW5] at hrun
  have hsr : gs' < r := by omega
  have hgr : g' < r := by omega
  have hmr' : gm' < r := by omega
  have hwr : w.heap.size ≤ r := by have := hx5.size; omega
  have hgmr : gm < w.heap.size := HP.out.map.lt
  have HGM := hid hgm'
  have hwm : w.heap.size ≤ gm' := by have := hx2.size; have := hx1.size; omega
  clear hgm' hx1 hx2 hx5 hk5 hr5 hm5 ho5 ho2 hn5 hn5' hC5 hrs hmr hla hx6 hs6 hρ5 hr2 hr1 hW5 hs5 hs1 hgs1 hr
  go_wp2_with fail
  go_loopw [4] (fun _ wr => ∃ left cnt m' ρ', MapR kInt wr gm r N m left cnt ∧ DvP wr g' ρ' (N + 600) { d with pend := restP d left } (.slice (some ⟨gs', 0, none⟩) d.safe.length sc') gm' m' ∧ (∀ k, ρ' k ≠ none → w.heap.size ≤ k ∧ k ≠ r) ∧ Ext w wr) (fun _ wr => wr.rangeLeft gm r)
  case atStart => exact ⟨left, cnt, _, ρ5, HMR.out, by rw [HRS.out]; exact HC6.out, fun k hk => ⟨(HN5.out k hk).1, by have := (HN5.out k hk).2; omega⟩, HX6.out⟩
  case round =>
    clear HMR HRS HC6 HN5 HX6 HS6 hrun left cnt
    obtain ⟨left, cnt, m', ρ', hmr, hpr, hnr, hxr⟩ := hrel
    go_wp2_with (first | (at_next; refine wl_next rfl _ rfl r rfl hmr ?_ ?_) | go_in)
    · intro h0 hl0
      rw [restP_end hl0] at hpr
      go_wp2_with fail
      go_ret
      exact ⟨g', ρ', rfl, ⟨_, _, _, hpr.mono (by omega)⟩, fun k hk => (hnr k hk).1, hxr⟩
    · intro x v w3 cnt' hxk hmx hlx hmr2 hlt hk hs hen
      have hp3 := hpr.keep (hk.mono fun k hk _ e => (hnr k hk).2 e)
      have hx3 : Ext w w3 := Keep.ext (((hxr.keep (fun k => k < w.heap.size)).trans (hk.mono fun k hk _ => by omega)).mono fun k _ hl => hl)
      have hP := HP.out.ext hx3
      have hne : d.pend x ≠ [] := (hP.has x hxk).1 (by rw [hmx]; rfl)
      have hrx := hP.rng x hne
      have hpd := hP.pend x hxk
      rw [hmx] at hpd
      simp only [Option.getD_some] at hpd
      obtain ⟨la, lc, rfl⟩ := hpd.slice
      have hp0 : restP d left x = [] := by unfold restP; rw [if_pos hlx]
      have hm0 : m' x = none := by
        cases h : m' x with
        | none => rfl
        | some u => exact absurd hp0 ((hp3.has x hxk).1 (by rw [h]; rfl))
      have hlong := hP.long x
      have c1 := hp3.c1
      have hglt := hp3.glt
      have HPD := hid hpd
      have HP3 := hid hp3
      have HMR2 := hid hmr2
      have HMR0 := hid hmr
      have HX3 := hid hx3
      have HLT := hid hlt
      have HNE := hid hne
      have HRX := hid hrx
      have HP0 := hid hp0
      have HM0 := hid hm0
      have HNR := hid hnr
      have hr3 : r < w3.heap.size := by rw [hs]; exact hmr.lt.1
      have HR3 := hid hr3
      clear hpd hp3 hmr2 hmr hx3 hlt hne hrx hp0 hm0 hpr hP hk hnr hlx hmx hxr hs
      go_wp2_with fail
      have hxd : Ext w3 w3.drew := by (· repeat (first | (with_reducible assumption) | exact Ext.refl _ | refine Ext.alloc ?_ _ | refine Ext.drew ?_ | refine Ext.drewN ?_ _ | (apply Ext.snart; (with_reducible assumption))))
      refine wp_region_T (fun w' => w'.cell? ⟨g', 1, none⟩ = some (.map (some gm'))) [] (by kernel_rfl) (Ext.cellS hxd c1) (fun hS => ?_)
      (refine wpAnyT_take (i := 0) (v := ?_) rfl (by kernel_rfl) (by kernel_rfl) (by kernel_rfl) (by kernel_rfl) (fun _ _ _ h => h) (Or.inl ⟨by rfl, ?_⟩) (by assumption) ?_; rotate_left; ((intro wS hSw; (try dsimp only at hSw); (try simp only [List.getElem_toArray, List.getElem_cons_zero, List.getElem_cons_succ]); go_simp); (try with_reducible rfl)); (try simp only [Act.put, List.getElem_toArray, List.getElem_cons_zero, List.getElem_cons_succ, List.setIfInBounds_toArray, List.set_cons_zero, List.set_cons_succ]))
      (refine wpAnyT_take (i := 1) (v := ?_) rfl (by kernel_rfl) (by kernel_rfl) (by kernel_rfl) (by kernel_rfl) (fun _ _ _ h => h) (Or.inl ⟨by rfl, ?_⟩) (by assumption) ?_; rotate_left; ((intro wS hSw; (try dsimp only at hSw); (try simp only [List.getElem_toArray, List.getElem_cons_zero, List.getElem_cons_succ]); go_simp); (try with_reducible rfl)); (try simp only [Act.put, List.getElem_toArray, List.getElem_cons_zero, List.getElem_cons_succ, List.setIfInBounds_toArray, List.set_cons_zero, List.set_cons_succ]))
      (refine wpAnyT_take (i := 2) (v := ?_) rfl (by kernel_rfl) (by kernel_rfl) (by kernel_rfl) (by kernel_rfl) (fun _ _ _ h => h) (Or.inl ⟨by rfl, ?_⟩) (by assumption) ?_; rotate_left; ((intro wS hSw; (try dsimp only at hSw); (try simp only [List.getElem_toArray, List.getElem_cons_zero, List.getElem_cons_succ]); go_simp); (try with_reducible rfl)); (try simp only [Act.put, List.getElem_toArray, List.getElem_cons_zero, List.getElem_cons_succ, List.setIfInBounds_toArray, List.set_cons_zero, List.set_cons_succ]))
      (refine wpAnyT_take (i := 3) (v := ?_) rfl (by kernel_rfl) (by kernel_rfl) (by kernel_rfl) (by kernel_rfl) (fun _ _ _ h => h) (Or.inl ⟨by rfl, ?_⟩) (by assumption) ?_; rotate_left; ((intro wS hSw; (try dsimp only at hSw); (try simp only [List.getElem_toArray, List.getElem_cons_zero, List.getElem_cons_succ]); go_simp); (try with_reducible rfl)); (try simp only [Act.put, List.getElem_toArray, List.getElem_cons_zero, List.getElem_cons_succ, List.setIfInBounds_toArray, List.set_cons_zero, List.set_cons_succ]))
      refine wpAnyT_all (rs := [4]) (by kernel_rfl) (by decide) (AllT.consS rfl (fun K hK => ?_) AllT.nil)
      go_simp
      go_at_call 59
      refine (CloneBk_any _ _ _ (d.pend x) (HPD.out.ext hxd).rd (by omega)).mono ?_
      rintro e w4 ⟨v4, rfl, ho4, hx4⟩
      have hx34 : Ext w3 w4 := hxd.trans hx4
      have hm4 := (HP3.out.ext hx34).tight
      obtain ⟨w5, hrun, hm5, hg5, hs5⟩ := hm4.store Try.underlying90 (by unfold maxLen; decide) hxk v4
      obtain ⟨q1, q2, q3⟩ := HP3.out.put (n := x) (l := d.pend x) (N' := N + 600) hxk HRX.out HNE.out (by omega) (by omega) hx34 HP0.out HM0.out (ho4.low (Nat.zero_le _)) (fun k hk => by have := (ho4.lt k hk).1; have := hxd.size; omega) (hm5.mono (by omega)) hg5
      have Q1 := hid q1
      have Q2 := hid q2
      have Q3 := hid q3
      have HV4 := hid (fun k hk => (ho4.lt k hk).1)
      have c1' := hx34.cellS c1
      have hz4 := hx34.size
      clear q1 q2 q3 hm4 hm5 ho4 hx4
      have hrun : (Instr.mapUpdate 90 (.map (some gm')) (.int .i64 x) v4).run Try.prog w4 = .ok () w5 := hrun
      (refine hK.out _ _ (c1') (fun hS => ?_); clear hK K)
      refine wpAnyT_all (rs := [5]) (by kernel_rfl) (by decide) (AllT.consS rfl (fun K hK => ?_) AllT.nil)
      go_simp
      have hk45 : Keep (fun j => j ≠ gm') w4 w5 := (keep_grown hg5).mono fun j hj _ e => hj (Option.some.inj e)
      have hg3 : g' < w4.heap.size := Nat.lt_of_lt_of_le HP3.out.glt hz4
      (refine hK.out _ _ ((World.cell?_of_block (hk45.block g' HP3.out.ne hg3)).trans c1') (fun hS => ?_); clear hK K)
      refine wpAnyT_done (by kernel_rfl) (NoPanic.normal ?_) _
      go_wp2_with fail
      have hb3 := HMR2.out.lt
      have hmr5 : MapR kInt w5 gm r N m (fun z => left z && !z.sameKey (.int .i64 x)) cnt' :=
        HMR2.out.keep ((hk45.block gm (by omega) (by omega)).trans (Below.block hx34 gm hb3.2.1)) ((hk45.block r (by omega) (by omega)).trans (Below.block hx34 r hb3.1))
      refine ⟨⟨_, cnt', upd m' x v4, rolW ρ' v4 x, hmr5, ?_, fun k hk => ?_, ?_⟩, ?_⟩
      · rw [restP_step]
        exact Q1.out
      · rcases Q3.out k hk with h | h
        · exact HNR.out k h
        · have := HR3.out
          have := HX3.out.size
          omega
      · exact Keep.ext (((((HX3.out.trans hx34)).keep (fun k => k < w.heap.size)).trans (hk45.mono fun k hk _ => by omega)).mono fun k _ hl => hl)
      · rw [hmr5.left_eq, HMR0.out.left_eq]
        exact HLT.out
end Go.Proofs.Ytgbiffpnfpdcoaa
