/- blockdev: the device in memory; New; operate, Fuse, Down, Ops, Blocks; Write on no device. -/
import Derived.Test.YtgbiffpnfpdcoaaMapG
import Derived.Test.YtgbiffpnfpdcoaaRegT
import Derived.Test.YtgbiffpnfpdcoaaOwB
import Derived.Deep.MidRow
import Derived.Deep.OwnRows
import Derived.Deep.Upon
import Derived.Great.BuildSlice

/- The device of blocks: what it is, how it lies in memory. -/
namespace Go.Proofs.Ytgbiffpnfpdcoaa
open Go.RowKit Go.Maps
set_option linter.unusedVariables false
set_option linter.unusedSimpArgs false

abbrev Bk := List UInt8
/-- a block of noughts -/
def zb : Bk := List.replicate 512 0
theorem zb_len : zb.length = 512 := List.length_replicate
def rBk : Rdr Bk where
  size := 512
  rd _ _ cs x := cs = bvs x ∧ x.length = 512
  len h := by rw [h.1]; simpa [bvs] using h.2
  one h u hu := by rw [h.1] at hu; exact bvs_oneCell _ u hu
  keep h _ _ _ := h
theorem rBk_free {w w' : World} {S S' : Nat → Prop} {cs : List Value} {b : Bk} (h : rBk.rd w S cs b) : rBk.rd w' S' cs b := h
def zBk : Value := .agg (Array.replicate 512 (.int .u8 0))
theorem infoBk : (Try.prog.info? 102).map (fun i => (i.zero, i.size, i.bytes)) = some (some zBk, 512, 512) := by kernel_rfl

/-- a device: blocks as they were at the last flush, the writes behind that, block by block -/
structure Dv where
  safe : List Bk
  pend : Int → List Bk
  fuse : Int
  down : Bool
  ops : Int

def kInt : KeyK Int where
  t := 3
  law := int_keyed Try.underlying3
  val := .int .i64
  lit n := .int .i64 n
  ok n := -9223372036854775808 ≤ n ∧ n ≤ 9223372036854775807
  key {x} h := keyOf_int_mk Try.underlying3 (by
    show (decide (IntKind.i64.min ≤ x) && decide (x ≤ IntKind.i64.max)) = true
    rw [Bool.and_eq_true, decide_eq_true_eq, decide_eq_true_eq]
    exact h)
  inj {x y} h := by cases h; rfl

def nilS : Value := .slice none 0 0
/-- what a block of a device is -/
inductive DRol where
  | dev | pmap | safe
  | row (n : Int)

/-- the parts of a device at block g -/
structure DvP (w : World) (g : Nat) (ρ : Nat → Option DRol) (N : Nat) (d : Dv) (vs : Value) (gm : Nat) (m : Int → Option Value) : Prop where
  head : w.heap[g]? = some (.cells #[vs, .map (some gm), .int .i64 d.fuse, .bool d.down, .int .i64 d.ops] 92 (0, 0))
  rg : ρ g = some .dev
  safe : OwnS rBk 102 w 0 (fun _ => False) vs d.safe
  rsafe : ∀ k, vs.ownBlock = some k → ρ k = some .safe
  map : MapG kInt w gm N m
  rm : ρ gm = some .pmap
  pend : ∀ n, kInt.ok n → OwnS rBk 102 w 0 (fun _ => False) ((m n).getD nilS) (d.pend n)
  rpend : ∀ n, kInt.ok n → ∀ k, ((m n).getD nilS).ownBlock = some k → ρ k = some (.row n)
  has : ∀ n, kInt.ok n → ((m n).isSome = true ↔ d.pend n ≠ [])
  rng : ∀ n, d.pend n ≠ [] → 0 ≤ n ∧ n < d.safe.length
  lt : ∀ k, ρ k ≠ none → k < w.heap.size
  size : 64 ≤ d.safe.length ∧ d.safe.length ≤ 512
  fuse : -1 ≤ d.fuse ∧ d.fuse ≤ 9223372036854775807
  ops : 0 ≤ d.ops ∧ d.ops ≤ N
  long : ∀ n, (d.pend n).length ≤ N

/-- block g is a device that stands as d, out of the blocks that ρ names; so far at most N operations -/
def DvAt (w : World) (g : Nat) (ρ : Nat → Option DRol) (N : Nat) (d : Dv) : Prop := ∃ vs gm m, DvP w g ρ N d vs gm m

section
variable {w w' : World} {g : Nat} {ρ : Nat → Option DRol} {N : Nat} {d : Dv} {vs : Value} {gm : Nat} {m : Int → Option Value}

theorem DvP.keep (h : DvP w g ρ N d vs gm m) (hk : Keep (fun k => ρ k ≠ none) w w') : DvP w' g ρ N d vs gm m := { h with
  head := by rw [hk.block g (by rw [h.rg]; simp) (h.lt g (by rw [h.rg]; simp))]; exact h.head
  safe := h.safe.kept (hk.mono fun k hs _ => by
    rcases hs with hs | hs
    · exact hs.elim
    · rw [h.rsafe k hs]; simp)
  map := h.map.kept hk (by rw [h.rm]; simp)
  pend := fun n hn => (h.pend n hn).kept (hk.mono fun k hs _ => by
    rcases hs with hs | hs
    · exact hs.elim
    · rw [h.rpend n hn k hs]; simp)
  lt := fun k hr => Nat.lt_of_lt_of_le (h.lt k hr) hk.size }
theorem DvP.ext (h : DvP w g ρ N d vs gm m) (hx : Ext w w') : DvP w' g ρ N d vs gm m := h.keep (hx.keep _)
theorem DvAt.keep (h : DvAt w g ρ N d) (hk : Keep (fun k => ρ k ≠ none) w w') : DvAt w' g ρ N d := by
  obtain ⟨vs, gm, m, h⟩ := h; exact ⟨vs, gm, m, h.keep hk⟩
theorem DvAt.ext (h : DvAt w g ρ N d) (hx : Ext w w') : DvAt w' g ρ N d := h.keep (hx.keep _)
theorem DvP.mono (h : DvP w g ρ N d vs gm m) {N' : Nat} (hn : N ≤ N') : DvP w g ρ N' d vs gm m := { h with
  map := h.map.mono hn
  ops := ⟨h.ops.1, by have := h.ops.2; omega⟩
  long := fun n => Nat.le_trans (h.long n) hn }
theorem DvAt.mono (h : DvAt w g ρ N d) {N' : Nat} (hn : N ≤ N') : DvAt w g ρ N' d := by
  obtain ⟨vs, gm, m, h⟩ := h; exact ⟨vs, gm, m, h.mono hn⟩
theorem DvP.glt (h : DvP w g ρ N d vs gm m) : g < w.heap.size := h.lt g (by rw [h.rg]; simp)
theorem DvP.ne (h : DvP w g ρ N d vs gm m) : g ≠ gm := fun e => by have := h.rg; rw [e, h.rm] at this; simp at this
theorem DvP.nvs (h : DvP w g ρ N d vs gm m) (k : Nat) (hk : vs.ownBlock = some k) : k ≠ g ∧ k ≠ gm := ⟨fun e => by have := h.rsafe k hk; rw [e, h.rg] at this; simp at this, fun e => by have := h.rsafe k hk; rw [e, h.rm] at this; simp at this⟩
theorem DvP.c0 (h : DvP w g ρ N d vs gm m) : w.cell? ⟨g, 0, none⟩ = some vs := (cell_of_row _ _ _ _ _ _ h.head).trans rfl
theorem DvP.c1 (h : DvP w g ρ N d vs gm m) : w.cell? ⟨g, 1, none⟩ = some (.map (some gm)) := (cell_of_row _ _ _ _ _ _ h.head).trans rfl
theorem DvP.c2 (h : DvP w g ρ N d vs gm m) : w.cell? ⟨g, 2, none⟩ = some (.int .i64 d.fuse) := (cell_of_row _ _ _ _ _ _ h.head).trans rfl
theorem DvP.c3 (h : DvP w g ρ N d vs gm m) : w.cell? ⟨g, 3, none⟩ = some (.bool d.down) := (cell_of_row _ _ _ _ _ _ h.head).trans rfl
theorem DvP.c4 (h : DvP w g ρ N d vs gm m) : w.cell? ⟨g, 4, none⟩ = some (.int .i64 d.ops) := (cell_of_row _ _ _ _ _ _ h.head).trans rfl

/-- other cells ahead in the head -/
theorem DvP.head' (h : DvP w g ρ N d vs gm m) (hk : Keep (fun k => k ≠ g) w w') (hs : w'.heap.size = w.heap.size) (d' : Dv) (N' : Nat) (hn : N ≤ N') (e1 : d'.safe = d.safe) (e2 : d'.pend = d.pend) (hf : -1 ≤ d'.fuse ∧ d'.fuse ≤ 9223372036854775807) (ho : 0 ≤ d'.ops ∧ d'.ops ≤ N')
    (hh : w'.heap[g]? = some (.cells #[vs, .map (some gm), .int .i64 d'.fuse, .bool d'.down, .int .i64 d'.ops] 92 (0, 0))) : DvP w' g ρ N' d' vs gm m where
  head := hh
  rg := h.rg
  safe := by
    rw [e1]
    exact h.safe.kept (hk.mono fun k hs _ => by
      rcases hs with hs | hs
      · exact hs.elim
      · exact (h.nvs k hs).1)
  rsafe := h.rsafe
  map := (h.map.kept hk (fun e => h.ne e.symm)).mono hn
  rm := h.rm
  pend := fun n hn => by
    rw [e2]
    exact (h.pend n hn).kept (hk.mono fun k hs _ => by
      rcases hs with hs | hs
      · exact hs.elim
      · intro e; have := h.rpend n hn k hs; rw [e, h.rg] at this; simp at this)
  rpend := h.rpend
  has := by rw [e2]; exact h.has
  rng := by rw [e1, e2]; exact h.rng
  lt := by rw [hs]; exact h.lt
  size := by rw [e1]; exact h.size
  fuse := hf
  ops := ho
  long := fun n => by rw [e2]; exact Nat.le_trans (h.long n) hn
end

/-! ### a new one -/
def zbs (n : Nat) : Array Value := madeCells (Array.replicate 512 (.int .u8 0)) (n * 512)
theorem zbs_list (n : Nat) : (zbs n).toList = List.replicate (n * 512) (.int .u8 0) := by
  apply List.ext_getElem
  · simp [zbs, madeCells]
  · intro i h1 h2
    simp only [zbs, madeCells, Array.toList_map, Array.toList_range, List.getElem_map, List.getElem_range, List.getElem_replicate, Array.size_replicate]
    rw [getElem!_pos _ _ (by simp; omega)]
    simp
theorem makeBk (n : Nat) (hn : n ≤ 512) (w : World) : (Instr.makeSlice 89 (.int .i64 n) (.int .i64 n)).run Try.prog w = .ok (.slice (some ⟨w.heap.size, 0, none⟩) n n) (w.alloc (.cells (zbs n) 102)) := by
  obtain ⟨i0, hi, hz0, hz1, hz2⟩ := info_parts infoBk
  have h := run_make (P := Try.prog) w 89 102 i0 _ Try.underlying89 hi hz0 .i64 .i64 n n (by omega) (Int.le_refl _) (by rw [hz2]; omega) (by omega)
  rw [hz1] at h
  exact h
theorem cellsOf_rep {α : Type} (n : Nat) (cs : List Value) (x : α) (v : Value) (k : Nat) (h : cs = List.replicate k v) : cellsOf (List.replicate n (cs, x)) = List.replicate (n * k) v := by
  subst h
  induction n with
  | zero => simp [cellsOf]
  | succ n ih => rw [List.replicate_succ, cellsOf, List.flatMap_cons]; rw [cellsOf] at ih; rw [ih, Nat.add_mul, Nat.one_mul, Nat.add_comm, ← List.replicate_append_replicate]
theorem bvs_zb : bvs zb = List.replicate 512 (.int .u8 0) := by
  show (List.replicate 512 (0 : UInt8)).map bv = _
  rw [List.map_replicate]
  rfl
theorem zbs_own {w : World} {g n : Nat} (hg : w.heap[g]? = some (.cells (zbs n) 102 (0, 0))) (hn : n ≤ 512) : OwnS rBk 102 w 0 (fun _ => False) (.slice (some ⟨g, 0, none⟩) n n) (List.replicate n zb) := by
  have hc : cellsOf (List.replicate n (bvs zb, zb)) = List.replicate (n * 512) (.int .u8 0) := cellsOf_rep n _ _ _ 512 bvs_zb
  refine ⟨List.replicate n (bvs zb, zb), by simp, ⟨?_, .inr ⟨g, n, _, by simp, Nat.zero_le _, hg, by simp, by unfold maxLen; omega, ?_, ?_⟩⟩, fun k _ h => h, fun p hp => ?_⟩
  · rw [hc]; simp [rBk]
  · show (zbs n).size = n * 512
    simp [zbs, madeCells]
  · rw [hc, zbs_list, List.length_replicate]
    exact List.take_of_length_le (by simp [rBk])
  · obtain ⟨_, rfl⟩ := List.mem_replicate.1 hp
    exact ⟨rfl, zb_len⟩

def dv0 (n : Nat) : Dv := ⟨List.replicate n zb, fun _ => [], -1, false, 0⟩

set_option maxRecDepth 100000 in
set_option maxHeartbeats 1000000 in
theorem BNew_ok (w : World) (n : Nat) (h1 : 64 ≤ n) (h2 : n ≤ 512) :
    Calls Try.prog 21 #[.int .i64 n] w fun e w' => ∃ g, e = .returned (.tuple #[.pointer (some ⟨g, 0, none⟩), .int .i64 0]) ∧ (∃ ρ, DvAt w' g ρ 0 (dv0 n) ∧ ∀ k, ρ k ≠ none → w.heap.size ≤ k) ∧ Ext w w' := by
  have hmk := fun W => makeBk n h2 W
  have hmm := @run_makeMap Try.prog
  have t1 : ¬ (n : Int) < 64 := by omega
  have t2 : ¬ (512 : Int) < n := by omega
  go_enter Try.func21, Try.ntmps21
  go_wp2_with fail
  obtain ⟨wa, hwa⟩ : ∃ wa, wa = w.alloc (.cells (zbs n) 102) := ⟨_, rfl⟩
  obtain ⟨wb, hwb⟩ : ∃ wb, wb = wa.alloc (.map #[] 0) := ⟨_, rfl⟩
  obtain ⟨wc, hwc⟩ : ∃ wc, wc = wb.alloc (.cells #[.slice (some ⟨w.heap.size, 0, none⟩) n n, .map (some (w.heap.size + 1)), .int .i64 (-1), .bool false, .int .i64 0] 92) := ⟨_, rfl⟩
  have sa : wa.heap.size = w.heap.size + 1 := by rw [hwa]; simp
  have sb : wb.heap.size = w.heap.size + 2 := by rw [hwb]; simp [sa]
  have sc : wc.heap.size = w.heap.size + 3 := by rw [hwc]; simp [sb]
  have xa : Ext w wa := by rw [hwa]; exact (Ext.refl w).alloc _
  have xb : Ext wa wb := by rw [hwb]; exact (Ext.refl wa).alloc _
  have xc : Ext wb wc := by rw [hwc]; exact (Ext.refl wb).alloc _
  have mb : MapG kInt wc (w.heap.size + 1) 0 (fun _ => none) := (show MapG kInt wb (w.heap.size + 1) 0 (fun _ => none) by rw [hwb, ← sa]; exact MapG.made kInt wa).ext xc
  have ha : wc.heap[w.heap.size]? = some (.cells (zbs n) 102 (0, 0)) := (Below.block (xb.trans xc) _ (by omega)).trans (by rw [hwa]; exact heap_alloc_new _ _)
  have hr : wc.heap[w.heap.size + 2]? = some (.cells #[.slice (some ⟨w.heap.size, 0, none⟩) n n, .map (some (w.heap.size + 1)), .int .i64 (-1), .bool false, .int .i64 0] 92 (0, 0)) := by rw [hwc, ← sb]; exact heap_alloc_new _ _
  rw [← hwa, ← hwb, ← hwc]
  clear hwa hwb hwc
  refine bodyPost_ret (v := .tuple #[.pointer (some ⟨w.heap.size + 2, 0, none⟩), .int .i64 0]) (by simp [results, Try.results21, go_sem]) rfl ?_
  refine ⟨w.heap.size + 2, rfl, ⟨fun k => if k = w.heap.size then some .safe else if k = w.heap.size + 1 then some .pmap else if k = w.heap.size + 2 then some .dev else none, ⟨_, _, _, {
    head := hr
    rg := by simp
    safe := zbs_own ha h2
    rsafe := fun k hk => by
      simp only [Value.ownBlock, Option.some.injEq] at hk
      simp [← hk]
    map := mb
    rm := by simp
    pend := fun s hs => OwnS.nil _ _ _ _ _
    rpend := fun s hs k hk => by simp [nilS, Value.ownBlock] at hk
    has := fun s hs => by simp [dv0]
    rng := fun s hs => by simp [dv0] at hs
    lt := fun k hk => by
      try simp only at hk
      split at hk
      · omega
      · split at hk
        · omega
        · split at hk
          · omega
          · exact absurd rfl hk
    size := by simp only [dv0, List.length_replicate]; omega
    fuse := by simp only [dv0]; omega
    ops := by simp only [dv0]; omega
    long := fun s => by simp [dv0] }⟩, fun k hk => ?_⟩, (xa.trans xb).trans xc⟩
  try simp only at hk
  split at hk
  · omega
  · split at hk
    · omega
    · split at hk
      · omega
      · exact absurd rfl hk

set_option maxRecDepth 100000 in
set_option maxHeartbeats 1000000 in
theorem BNew_no (w : World) (n : Int) (hn : -9223372036854775808 ≤ n ∧ n ≤ 9223372036854775807) (h : n < 64 ∨ 512 < n) :
    Calls Try.prog 21 #[.int .i64 n] w fun e w' => e = .returned (.tuple #[.pointer none, .int .i64 21]) ∧ w = w' := by
  obtain ⟨hn1, hn2⟩ := hn
  by_cases h3 : n < 64
  all_goals
    try have t2 : (512 : Int) < n := by omega
    clear h
    go_enter Try.func21, Try.ntmps21
    go_wp2_with fail
    refine bodyPost_ret (v := .tuple #[.pointer none, .int .i64 21]) (by simp [results, Try.results21, go_sem]) rfl ?_
    exact ⟨rfl, rfl⟩
end Go.Proofs.Ytgbiffpnfpdcoaa

/- blockdev: operate, Fuse, Down, Ops, Blocks, walked. -/
namespace Go.Proofs.Ytgbiffpnfpdcoaa
open Go.RowKit Go.Maps
set_option linter.unusedVariables false
set_option linter.unusedSimpArgs false

theorem blk_set {w : World} {g o : Nat} {c : Array Value} {t : TypeId} {f : Nat × Nat} (h : w.heap[g]? = some (.cells c t f)) (u : Value) : (w.setCell ⟨g, o, none⟩ u).heap[g]? = some (.cells (c.setIfInBounds o u) t f) := by
  simp [World.setCell, Array.getElem?_modify, h]
theorem blk_fro {w : World} {g : Nat} {c : Array Value} {t : TypeId} (h : w.heap[g]? = some (.cells c t (0, 0))) (o : Nat) : w.frozen? ⟨g, o, none⟩ = false := by simp [World.frozen?, h]

/-- what an operation on a device comes to -/
def DvEnd (w : World) (g : Nat) (ρ : Nat → Option DRol) (N : Nat) (X : Int × Dv) (e : Ending) (w' : World) : Prop := e = .returned (.int .i64 X.1) ∧ DvAt w' g ρ N X.2 ∧ Keep (fun k => k ≠ g) w w'

def opF (d : Dv) (n wrong : Int) : Int × Dv :=
  if d.down = true then (2, d) else if n < 0 ∨ (d.safe.length : Int) ≤ n then (20, d) else if wrong ≠ 0 then (wrong, d) else if d.fuse = 0 then (2, { d with down := true }) else (0, { d with fuse := if 0 < d.fuse then d.fuse - 1 else d.fuse, ops := d.ops + 1 })

theorem operate_nil (w : World) (n wrong : Int) : Calls Try.prog 56 #[.pointer none, .int .i64 n, .int .i64 wrong] w fun e w' => e = .returned (.int .i64 1) ∧ w = w' := by
  go_enter Try.func56, Try.ntmps56
  go_wp2_with fail
  go_ret
  exact ⟨rfl, rfl⟩

set_option maxRecDepth 100000 in
set_option maxHeartbeats 2000000 in
theorem operate_any (w : World) (g : Nat) (ρ : Nat → Option DRol) (N : Nat) (d : Dv) (h : DvAt w g ρ N d) (hN : N ≤ 1000000000) (n wrong : Int) (hn : -9223372036854775808 ≤ n ∧ n ≤ 9223372036854775807) (hw : -9223372036854775808 ≤ wrong ∧ wrong ≤ 9223372036854775807) :
    Calls Try.prog 56 #[.pointer (some ⟨g, 0, none⟩), .int .i64 n, .int .i64 wrong] w (DvEnd w g ρ (N + 1) (opF d n wrong)) := by
  obtain ⟨sf, pd, fu, dn, op⟩ := d
  obtain ⟨vs, gm, m, h⟩ := h
  obtain ⟨va, vc, rfl⟩ := h.safe.slice
  have c0 := h.c0
  have c2 := h.c2
  have c3 := h.c3
  have c4 := h.c4
  have f2 := blk_fro h.head 2
  have f3 := blk_fro h.head 3
  have f4 := blk_fro h.head 4
  obtain ⟨hf1, hf2⟩ := h.fuse
  obtain ⟨ho1, ho2⟩ := h.ops
  obtain ⟨hs1, hs2⟩ := h.size
  obtain ⟨hn1, hn2⟩ := hn
  obtain ⟨hw1, hw2⟩ := hw
  have H := hid h
  clear h
  dsimp only at c0 c2 c3 c4 hf1 hf2 ho1 ho2 hs1 hs2
  have hstay : DvAt w g ρ (N + 1) ⟨sf, pd, fu, dn, op⟩ := ⟨_, gm, m, H.out.mono (Nat.le_succ N)⟩
  have HS := hid hstay
  clear hstay
  cases dn
  · by_cases h1 : n < 0 ∨ (sf.length : Int) ≤ n
    · have hop := hid (show opF ⟨sf, pd, fu, false, op⟩ n wrong = (20, ⟨sf, pd, fu, false, op⟩) by unfold opF; rw [if_neg (by simp), if_pos h1])
      by_cases h2 : n < 0
      all_goals
        try have h3 : (sf.length : Int) ≤ n := by omega
        clear h1
        go_enter Try.func56, Try.ntmps56
        go_wp2_with fail
        go_ret
        exact ⟨by rw [hop.out]; rfl, by rw [hop.out]; exact HS.out, Keep.refl _ _⟩
    · have h2 : ¬ n < 0 := fun e => h1 (.inl e)
      have h3 : ¬ (sf.length : Int) ≤ n := fun e => h1 (.inr e)
      by_cases h4 : wrong = 0
      · subst h4
        by_cases h5 : fu = 0
        · subst h5
          have hop := hid (show opF ⟨sf, pd, 0, false, op⟩ n 0 = (2, ⟨sf, pd, 0, true, op⟩) by unfold opF; rw [if_neg (by simp), if_neg h1, if_neg (by simp), if_pos rfl])
          clear h1
          go_enter Try.func56, Try.ntmps56
          go_wp2_with fail
          go_ret
          refine ⟨by rw [hop.out]; rfl, ?_, (Keep.refl _ _).setCell (by simp) _⟩
          rw [hop.out]
          exact ⟨_, gm, m, H.out.head' ((Keep.refl _ _).setCell (by simp) _) (by simp) _ (N + 1) (Nat.le_succ N) rfl rfl H.out.fuse ⟨ho1, by dsimp only; omega⟩ ((blk_set (o := 3) H.out.head (.bool true)).trans rfl)⟩
        · have hop := hid (show opF ⟨sf, pd, fu, false, op⟩ n 0 = (0, ⟨sf, pd, if 0 < fu then fu - 1 else fu, false, op + 1⟩) by unfold opF; rw [if_neg (by simp), if_neg h1, if_neg (by simp), if_neg h5])
          have ho3 : IntKind.i64.wrap (op + 1) = op + 1 := by rw [IntKind.wrap_i64]; omega
          clear h1
          by_cases h6 : 0 < fu
          · have hfw : IntKind.i64.wrap (fu - 1) = fu - 1 := by rw [IntKind.wrap_i64]; omega
            have e6 := hid (show (if 0 < fu then fu - 1 else fu) = fu - 1 from if_pos h6)
            go_enter Try.func56, Try.ntmps56
            go_wp2_with fail
            go_ret
            refine ⟨by rw [hop.out]; rfl, ?_, ((Keep.refl _ _).setCell (by simp) _).setCell (by simp) _⟩
            rw [hop.out, e6.out]
            exact ⟨_, gm, m, H.out.head' (((Keep.refl _ _).setCell (by simp) _).setCell (by simp) _) (by simp) _ (N + 1) (Nat.le_succ N) rfl rfl ⟨by dsimp only; omega, by dsimp only; omega⟩ ⟨by dsimp only; omega, by dsimp only; omega⟩ ((blk_set (o := 4) (blk_set (o := 2) H.out.head (.int .i64 (fu - 1))) (.int .i64 (op + 1))).trans rfl)⟩
          · have e6 := hid (show (if 0 < fu then fu - 1 else fu) = fu from if_neg h6)
            go_enter Try.func56, Try.ntmps56
            go_wp2_with fail
            go_ret
            refine ⟨by rw [hop.out]; rfl, ?_, (Keep.refl _ _).setCell (by simp) _⟩
            rw [hop.out, e6.out]
            exact ⟨_, gm, m, H.out.head' ((Keep.refl _ _).setCell (by simp) _) (by simp) _ (N + 1) (Nat.le_succ N) rfl rfl H.out.fuse ⟨by dsimp only; omega, by dsimp only; omega⟩ ((blk_set (o := 4) H.out.head (.int .i64 (op + 1))).trans rfl)⟩
      · have hop := hid (show opF ⟨sf, pd, fu, false, op⟩ n wrong = (wrong, ⟨sf, pd, fu, false, op⟩) by unfold opF; rw [if_neg (by simp), if_neg h1, if_pos h4])
        clear h1
        go_enter Try.func56, Try.ntmps56
        go_wp2_with fail
        go_ret
        exact ⟨by rw [hop.out]; rfl, by rw [hop.out]; exact HS.out, Keep.refl _ _⟩
  · have hop := hid (show opF ⟨sf, pd, fu, true, op⟩ n wrong = (2, ⟨sf, pd, fu, true, op⟩) by unfold opF; rw [if_pos rfl])
    go_enter Try.func56, Try.ntmps56
    go_wp2_with fail
    go_ret
    exact ⟨by rw [hop.out]; rfl, by rw [hop.out]; exact HS.out, Keep.refl _ _⟩

def fuseF (d : Dv) (k : Int) : Int × Dv := if d.down = true then (2, d) else (0, { d with fuse := max k (-1) })

theorem Fuse_nil (w : World) (n : Int) : Calls Try.prog 34 #[.pointer none, .int .i64 n] w fun e w' => e = .returned (.int .i64 1) ∧ w = w' := by
  go_enter Try.func34, Try.ntmps34
  go_wp2_with fail
  go_ret
  exact ⟨rfl, rfl⟩
theorem Down_nil (w : World) : Calls Try.prog 35 #[.pointer none] w fun e w' => e = .returned (.bool false) ∧ w = w' := by
  go_enter Try.func35, Try.ntmps35
  go_wp2_with fail
  go_ret
  exact ⟨rfl, rfl⟩
theorem Ops_nil (w : World) : Calls Try.prog 36 #[.pointer none] w fun e w' => e = .returned (.int .i64 0) ∧ w = w' := by
  go_enter Try.func36, Try.ntmps36
  go_wp2_with fail
  go_ret
  exact ⟨rfl, rfl⟩
theorem Blocks_nil (w : World) : Calls Try.prog 43 #[.pointer none] w fun e w' => e = .returned (.int .i64 0) ∧ w = w' := by
  go_enter Try.func43, Try.ntmps43
  go_wp2_with fail
  go_ret
  exact ⟨rfl, rfl⟩
section
variable {w : World} {g : Nat} {ρ : Nat → Option DRol} {N : Nat} {d : Dv}
set_option maxRecDepth 100000 in
set_option maxHeartbeats 2000000 in
theorem Fuse_any (h : DvAt w g ρ N d) (k : Int) (hk : -9223372036854775808 ≤ k ∧ k ≤ 9223372036854775807) :
    Calls Try.prog 34 #[.pointer (some ⟨g, 0, none⟩), .int .i64 k] w (DvEnd w g ρ N (fuseF d k)) := by
  obtain ⟨sf, pd, fu, dn, op⟩ := d
  obtain ⟨vs, gm, m, h⟩ := h
  have c3 := h.c3
  have f2 := blk_fro h.head 2
  have c2 := h.c2
  obtain ⟨hk1, hk2⟩ := hk
  have H := hid h
  clear h
  dsimp only at c3 c2
  cases dn
  · by_cases h1 : k < -1
    · have hop := hid (show fuseF ⟨sf, pd, fu, false, op⟩ k = (0, ⟨sf, pd, -1, false, op⟩) by unfold fuseF; rw [if_neg (by simp), show max k (-1) = -1 by omega])
      go_enter Try.func34, Try.ntmps34
      go_wp2_with fail
      go_ret
      refine ⟨by rw [hop.out]; rfl, ?_, (Keep.refl _ _).setCell (by simp) _⟩
      rw [hop.out]
      exact ⟨_, gm, m, H.out.head' ((Keep.refl _ _).setCell (by simp) _) (by simp) _ N (Nat.le_refl N) rfl rfl ⟨by dsimp only; omega, by dsimp only; omega⟩ H.out.ops ((blk_set (o := 2) H.out.head (.int .i64 (-1))).trans rfl)⟩
    · have hop := hid (show fuseF ⟨sf, pd, fu, false, op⟩ k = (0, ⟨sf, pd, k, false, op⟩) by unfold fuseF; rw [if_neg (by simp), show max k (-1) = k by omega])
      go_enter Try.func34, Try.ntmps34
      go_wp2_with fail
      go_ret
      refine ⟨by rw [hop.out]; rfl, ?_, (Keep.refl _ _).setCell (by simp) _⟩
      rw [hop.out]
      exact ⟨_, gm, m, H.out.head' ((Keep.refl _ _).setCell (by simp) _) (by simp) _ N (Nat.le_refl N) rfl rfl ⟨by dsimp only; omega, by dsimp only; omega⟩ H.out.ops ((blk_set (o := 2) H.out.head (.int .i64 k)).trans rfl)⟩
  · have hop := hid (show fuseF ⟨sf, pd, fu, true, op⟩ k = (2, ⟨sf, pd, fu, true, op⟩) by unfold fuseF; rw [if_pos rfl])
    go_enter Try.func34, Try.ntmps34
    go_wp2_with fail
    go_ret
    exact ⟨by rw [hop.out]; rfl, by rw [hop.out]; exact ⟨_, gm, m, H.out⟩, Keep.refl _ _⟩
theorem Down_any (h : DvAt w g ρ N d) : Calls Try.prog 35 #[.pointer (some ⟨g, 0, none⟩)] w fun e w' => e = .returned (.bool d.down) ∧ w = w' := by
  obtain ⟨vs, gm, m, h⟩ := h
  have c3 := h.c3
  clear h
  go_enter Try.func35, Try.ntmps35
  go_wp2_with fail
  go_ret
  exact ⟨rfl, rfl⟩
theorem Ops_any (h : DvAt w g ρ N d) : Calls Try.prog 36 #[.pointer (some ⟨g, 0, none⟩)] w fun e w' => e = .returned (.int .i64 d.ops) ∧ w = w' := by
  obtain ⟨vs, gm, m, h⟩ := h
  have c4 := h.c4
  clear h
  go_enter Try.func36, Try.ntmps36
  go_wp2_with fail
  go_ret
  exact ⟨rfl, rfl⟩
theorem Blocks_any (h : DvAt w g ρ N d) : Calls Try.prog 43 #[.pointer (some ⟨g, 0, none⟩)] w fun e w' => e = .returned (.int .i64 d.safe.length) ∧ w = w' := by
  obtain ⟨vs, gm, m, h⟩ := h
  have c0 := h.c0
  obtain ⟨a, c, e⟩ := h.safe.slice
  rw [e] at c0
  clear h
  go_enter Try.func43, Try.ntmps43
  go_wp2_with fail
  go_ret
  exact ⟨rfl, rfl⟩
end
end Go.Proofs.Ytgbiffpnfpdcoaa

/- blockdev.Write, walked. -/
namespace Go.Proofs.Ytgbiffpnfpdcoaa
open Go.RowKit Go.Maps
set_option linter.unusedVariables false
set_option linter.unusedSimpArgs false

theorem wp_appS {α : Type} (r : Rdr α) {w : World} {o : Oper} {a : Act} {K : Act → World → Prop} {Q : Exit → Act → World → Prop} (s x : Operand) (ts tx t : TypeId) (z : Value) (bytes : Nat)
    (ho : o.op = .call { callee := .builtin .append, args := #[s, x], argTypes := #[ts, tx] }) (hts : Try.prog.underlying ts = some (.slice t)) (hinfo : (Try.prog.info? t).map (fun i => (i.zero, i.size, i.bytes)) = some (some z, r.size, bytes)) (hzs : z.cells.size = r.size) (base : Nat) (S : Nat → Prop)
    (v : Value) (xs : List α) (hs : a.eval s = v) (happ : OwnS r t w base S v xs)
    (y : Value) (gs : List (List Value × α)) (hx : a.eval x = y) (hsrc : Src Try.prog r.size tx y gs.length (cellsOf gs) w) (hgs : ∀ p ∈ gs, r.rd w S p.1 p.2) (hSlt : ∀ k, S k → k < w.heap.size)
    (hbytes : (xs.length + gs.length) * bytes ≤ 140737488355328) (h63 : xs.length + gs.length ≤ 9223372036854775807) (hbase : base ≤ w.heap.size)
    (h : ∀ v' w', OwnS r t w' base S v' (xs ++ gs.map (·.2)) → w.grownBy w' v.ownBlock → (∀ k, v'.ownBlock = some k → v.ownBlock = some k ∨ w.heap.size ≤ k) → K (a.put o.dst v') w') : o.wp Try.prog a w K Q := by
  obtain ⟨i0, hi, hz0, hz1, hz2⟩ := info_parts hinfo
  obtain ⟨hs0, rfl, g2, gS, g3⟩ := happ
  rw [List.length_map] at hbytes h63
  refine wp_append_app s x ts tx ho base t i0 z r.size bytes hts hi hz0 hz1 hz2 hzs v hs0.length (cellsOf hs0) hs (.inl g2) (fun u hu => by obtain ⟨p, hp, hu⟩ := List.mem_flatMap.1 hu; exact r.one (g3 p hp) u hu) y gs.length (cellsOf gs) hx hsrc h63 hbytes hbase ?_
  intro v' w' h1 h2 h3 h4 h5 h6
  refine h v' w' ⟨hs0 ++ gs, by simp, ?_, fun k hk hSk => ?_, fun p hp => ?_⟩ h4 h6
  · rw [List.length_append, show cellsOf (hs0 ++ gs) = cellsOf hs0 ++ cellsOf gs from by simp [cellsOf]]
    exact h3 g2
  · rcases h6 k hk with hh | hh
    · exact gS k hh hSk
    · have := hSlt k hSk; omega
  · have all : r.rd w S p.1 p.2 := by
      rcases List.mem_append.1 hp with hp | hp
      · exact g3 p hp
      · exact hgs p hp
    exact r.keep all h4.size (fun k hk hl => h4.block k hl (fun e => gS k e.symm hk)) fun _ h _ => h
theorem src_row {w : World} {gb : Nat} {cs : List Value} {t ts : TypeId} {size : Nat} (hts : Try.prog.underlying ts = some (.slice t)) (hrow : w.heap[gb]? = some (.cells cs.toArray t (0, 0))) (h1 : ∀ u ∈ cs, u.oneCell' = true) (hl : cs.length = 1 * size) : Src Try.prog size ts (.slice (some ⟨gb, 0, none⟩) 1 1) 1 cs w := by
  refine Src.ofSlice _ hts ⟨gb, 0, none⟩ 1 1 cs hl (fun j u hu => ?_) h1
  rw [show (⟨gb, 0, none⟩ : Addr).add j = ⟨gb, j, none⟩ from by unfold Addr.add; split <;> simp_all, cell_of_row _ _ _ _ _ _ hrow]
  simpa using hu
theorem fill_foldl (l : List Value) : ∀ (k : Nat) (cs : Array Value) (i : Nat), ((l.zipIdx k).foldl (fun cs (x : Value × Nat) => cs.setIfInBounds (0 + x.2) x.1) cs).size = cs.size ∧
    ((l.zipIdx k).foldl (fun cs (x : Value × Nat) => cs.setIfInBounds (0 + x.2) x.1) cs)[i]? = if k ≤ i ∧ i < k + l.length ∧ i < cs.size then l[i - k]? else cs[i]? := by
  induction l with
  | nil => intro k cs i; simp; omega
  | cons a l ih =>
    intro k cs i
    rw [List.zipIdx_cons, List.foldl_cons]
    obtain ⟨h1, h2⟩ := ih (k + 1) (cs.setIfInBounds (0 + k) a) i
    refine ⟨by rw [h1]; simp, ?_⟩
    rw [h2, Array.size_setIfInBounds, Array.getElem?_setIfInBounds]
    by_cases e : i = k
    · subst e
      by_cases hi : i < cs.size
      · simp [hi]; intro h; omega
      · simp [hi]
    · by_cases h3 : k + 1 ≤ i ∧ i < k + 1 + l.length ∧ i < cs.size
      · rw [if_pos h3, if_pos (by simp only [List.length_cons]; omega), show i - k = (i - (k + 1)) + 1 by omega, List.getElem?_cons_succ]
      · rw [if_neg h3, if_neg (by omega), if_neg (by simp only [List.length_cons]; omega)]
theorem fill_one (cells arr : Array Value) (size : Nat) (h1 : arr.size = size) (h2 : cells.size = size) : Instr.fill (fun i => some (i * size, size)) cells [(0, .agg arr)] = some arr := by
  have hc : (Value.agg arr).cells = arr := rfl
  simp only [Instr.fill, hc]
  rw [if_neg (by simp [h1, h2])]
  congr 1
  rw [← Array.foldl_toList, Array.toList_zipIdx]
  apply Array.ext_getElem?
  intro i
  have := (fill_foldl arr.toList 0 cells i)
  simp only [Nat.zero_mul] at *
  rw [this.2]
  by_cases hi : i < size
  · rw [if_pos (by simp; omega)]; simp
  · rw [if_neg (by simp; omega), Array.getElem?_eq_none (by omega), Array.getElem?_eq_none (by omega)]
theorem buildBk (w : World) (b : Bk) (h : b.length = 512) : (Instr.buildSlice 89 1 #[(0, .agg (bvs b).toArray)]).run Try.prog w = .ok (.slice (some ⟨w.heap.size, 0, none⟩) 1 1) (w.alloc (.cells (bvs b).toArray 102)) := by
  obtain ⟨i0, hi, hz0, hz1, hz2⟩ := info_parts infoBk
  refine Go.run_buildSlice w 89 102 1 _ _ i0 _ Try.underlying89 hi hz0 (by rw [hz1]; omega) (by rw [hz1]; omega) ?_
  rw [hz1]
  exact fill_one _ _ 512 (by simp [bvs, h]) (by simp)
theorem zeroBks (w : World) : (zeroValue 89).run Try.prog w = .ok (.slice none 0 0) w := by kernel_rfl

/-- the roles behind a write whose row is now v' -/
def rolW (ρ : Nat → Option DRol) (v' : Value) (n : Int) : Nat → Option DRol := fun k => if v'.ownBlock = some k then some (.row n) else ρ k
def setP (f : Int → List Bk) (n : Int) (l : List Bk) : Int → List Bk := fun t => if t = n then l else f t

/-- behind 'd.pending[n] = append(d.pending[n], b)' -/
theorem DvP.write {w wA wB w' : World} {g : Nat} {ρ : Nat → Option DRol} {N : Nat} {d : Dv} {vs : Value} {gm : Nat} {m : Int → Option Value} (h : DvP w g ρ N d vs gm m) {n : Int} (hn : kInt.ok n) (hr : 0 ≤ n ∧ n < d.safe.length) {b : Bk} {v' : Value} {N' : Nat} (hl : (d.pend n).length < N') (hNN : N ≤ N') (hxA : Ext w wA)
    (ho : OwnS rBk 102 wB 0 (fun _ => False) v' (d.pend n ++ [b])) (hgB : wA.grownBy wB ((m n).getD nilS).ownBlock) (hv' : ∀ k, v'.ownBlock = some k → ((m n).getD nilS).ownBlock = some k ∨ wA.heap.size ≤ k)
    (hm : MapG kInt w' gm N' (upd m n v')) (hg : wB.grownBy w' (some gm)) :
    DvP w' g (rolW ρ v' n) N' { d with pend := setP d.pend n (d.pend n ++ [b]) } vs gm (upd m n v') ∧ Keep (fun k => ρ k = none) w w' ∧ (∀ k, rolW ρ v' n k ≠ none → ρ k ≠ none ∨ w.heap.size ≤ k) := by
  have hkB : Keep (fun j => ¬ ((m n).getD nilS).ownBlock = some j) w wB := (hxA.keep _).trans ((keep_grown hgB).mono fun j hj _ e => hj e.symm)
  have hkC : Keep (fun j => j ≠ gm) wB w' := (keep_grown hg).mono fun j hj _ e => hj (Option.some.inj e)
  have hk : Keep (fun j => ¬ ((m n).getD nilS).ownBlock = some j ∧ j ≠ gm) w w' := (hkB.mono fun j hj _ => hj.1).trans (hkC.mono fun j hj _ => hj.2)
  have hold : ∀ k, ρ k ≠ none → ρ k ≠ some (.row n) → ¬ v'.ownBlock = some k := fun k h1 h2 e => by
    rcases hv' k e with e' | e'
    · exact h2 (h.rpend n hn k e')
    · have := h.lt k h1; have := hxA.size; omega
  have hro : ∀ k r, ρ k = some r → (∀ e, r ≠ .row e) → rolW ρ v' n k = some r ∧ (¬ ((m n).getD nilS).ownBlock = some k) := fun k r h1 h2 => by
    refine ⟨?_, fun e => ?_⟩
    · unfold rolW
      rw [if_neg (hold k (by rw [h1]; simp) (by rw [h1]; intro e; exact h2 n (Option.some.inj e)))]
      exact h1
    · have := h.rpend n hn k e
      rw [h1] at this
      exact h2 n (Option.some.inj this)
  have hg0 := hro g _ h.rg (by simp)
  have hm0 := hro gm _ h.rm (by simp)
  have hvlt : ∀ k, v'.ownBlock = some k → k < w'.heap.size := fun k hkk => Nat.lt_of_lt_of_le (ho.lt k hkk).2 hkC.size
  refine ⟨{
    head := by rw [hk.block g ⟨hg0.2, h.ne⟩ h.glt]; exact h.head
    rg := hg0.1
    safe := ?_
    rsafe := fun k hkk => (hro k _ (h.rsafe k hkk) (by simp)).1
    map := hm
    rm := hm0.1
    pend := fun t ht => ?_
    rpend := fun t ht k hkk => ?_
    has := fun t ht => ?_
    rng := fun t ht => ?_
    lt := fun k hr => ?_
    size := h.size
    fuse := h.fuse
    ops := ⟨h.ops.1, by have := h.ops.2; dsimp only; omega⟩
    long := fun t => ?_ }, hk.mono fun k hr _ => ⟨fun e => by have := h.rpend n hn k e; rw [hr] at this; simp at this, fun e => by rw [e, h.rm] at hr; simp at hr⟩, fun k hr => ?_⟩
  · exact h.safe.kept (hk.mono fun j hj _ => by
      rcases hj with hj | hj
      · exact hj.elim
      · have hj := h.rsafe j hj
        exact ⟨(hro j _ hj (by simp)).2, fun e => by rw [e, h.rm] at hj; simp at hj⟩)
  · by_cases e : t = n
    · subst e
      rw [upd_same]
      simp only [setP, if_true, Option.getD_some]
      refine ho.kept (hkC.mono fun j hj _ e => ?_)
      subst e
      rcases hj with hj | hj
      · exact hj.elim
      · rcases hv' _ hj with hj | hj
        · exact hm0.2 hj
        · have := h.map.lt; have := hxA.size; omega
    · rw [upd_other _ _ e]
      simp only [setP, if_neg e]
      refine (h.pend t ht).kept (hk.mono fun j hj _ => ?_)
      rcases hj with hj | hj
      · exact hj.elim
      · have h1 := h.rpend t ht j hj
        refine ⟨fun e' => ?_, fun e' => by rw [e', h.rm] at h1; simp at h1⟩
        have h2 := h.rpend n hn j e'
        rw [h1] at h2
        simp only [Option.some.injEq, DRol.row.injEq] at h2
        exact e h2
  · by_cases e : t = n
    · subst e
      rw [upd_same] at hkk
      simp only [Option.getD_some] at hkk
      unfold rolW
      rw [if_pos hkk]
    · rw [upd_other _ _ e] at hkk
      have h1 := h.rpend t ht k hkk
      unfold rolW
      rw [if_neg (hold k (by rw [h1]; simp) (by rw [h1]; intro e'; simp only [Option.some.injEq, DRol.row.injEq] at e'; exact e e'))]
      exact h1
  · by_cases e : t = n
    · subst e
      rw [upd_same]; simp [setP]
    · rw [upd_other _ _ e]
      simp only [setP, if_neg e]
      exact h.has t ht
  · by_cases e : t = n
    · subst e; exact hr
    · simp only [setP, if_neg e] at ht
      exact h.rng t ht
  · unfold rolW at hr
    split at hr
    · rename_i e; exact hvlt k e
    · exact Nat.lt_of_lt_of_le (h.lt k hr) hk.size
  · by_cases e : t = n
    · subst e; simp only [setP, if_true, List.length_append, List.length_singleton]; omega
    · simp only [setP, if_neg e]; exact Nat.le_trans (h.long t) hNN
  · unfold rolW at hr
    split at hr
    · rename_i e
      rcases hv' k e with e' | e'
      · left; rw [h.rpend n hn k e']; simp
      · right; have := hxA.size; omega
    · exact .inl hr

theorem opF_same (d : Dv) (n wr : Int) : (opF d n wr).2.safe = d.safe ∧ (opF d n wr).2.pend = d.pend := by
  unfold opF
  repeat' split
  all_goals exact ⟨rfl, rfl⟩
theorem opF_ok {d : Dv} {n wr : Int} (h : (opF d n wr).1 = 0) : wr = 0 ∧ 0 ≤ n ∧ n < d.safe.length := by
  unfold opF at h
  repeat' split at h
  all_goals (try simp only at h)
  all_goals omega

/-- what a write comes to -/
def writeF (d : Dv) (n : Int) (data : List UInt8) : Int × Dv :=
  if (opF d n (if data.length = 512 then 0 else 21)).1 = 0 then (0, { (opF d n (if data.length = 512 then 0 else 21)).2 with pend := setP d.pend n (d.pend n ++ [data]) }) else opF d n (if data.length = 512 then 0 else 21)
def WrEnd (w : World) (g : Nat) (ρ : Nat → Option DRol) (N : Nat) (X : Int × Dv) (e : Ending) (w' : World) : Prop :=
  e = .returned (.int .i64 X.1) ∧ ∃ ρ', DvAt w' g ρ' N X.2 ∧ Keep (fun k => ρ k = none) w w' ∧ ∀ k, ρ' k ≠ none → ρ k ≠ none ∨ w.heap.size ≤ k

theorem Write_nil (w : World) (n : Int) (v : Value) (data : List UInt8) (hv : RdB w v data) : Calls Try.prog 27 #[.pointer none, .int .i64 n, v] w fun e w' => e = .returned (.int .i64 1) ∧ w = w' := by
  obtain ⟨a, c, rfl, _⟩ := hv
  by_cases h : data.length = 512
  · go_enter Try.func27, Try.ntmps27
    go_wp2_with fail
    refine (operate_nil _ _ _).mono ?_
    rintro e w1 ⟨rfl, rfl⟩
    go_wp2_with fail
    go_ret
    exact ⟨rfl, rfl⟩
  · have h1 : ((data.length : Int) != 512) = true := by simp; omega
    go_enter Try.func27, Try.ntmps27
    go_wp2_with fail
    refine (operate_nil _ _ _).mono ?_
    rintro e w1 ⟨rfl, rfl⟩
    go_wp2_with fail
    go_ret
    exact ⟨rfl, rfl⟩
end Go.Proofs.Ytgbiffpnfpdcoaa
