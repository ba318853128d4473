/- The device of blocks: what it is, how it lies in memory. -/
import Derived.Test.YtgbiffpnfpdcoaaMapG
import Derived.Test.YtgbiffpnfpdcoaaRegT
import Derived.Test.YtgbiffpnfpdcoaaOwB
import Derived.Deep.MidRow
import Derived.Deep.OwnRows
import Derived.Deep.Upon
namespace Go.Proofs.Ytgbiffpnfpdcoaa
open Go.RowKit Go.Maps
set_option linter.unusedVariables false
set_option linter.unusedSimpArgs false

abbrev Bk := List UInt8
/-- a block of noughts -/
def zb : Bk := List.replicate 512 0
theorem zb_len : zb.length = 512 := List.length_replicate
def rBk : Rdr Bk where
  size := 512
  rd _ _ cs x := cs = bvs x ∧ x.length = 512
  len h := by rw [h.1]; simpa [bvs] using h.2
  one h u hu := by rw [h.1] at hu; exact bvs_oneCell _ u hu
  keep h _ _ _ := h
theorem rBk_free {w w' : World} {S S' : Nat → Prop} {cs : List Value} {b : Bk} (h : rBk.rd w S cs b) : rBk.rd w' S' cs b := h
def zBk : Value := .agg (Array.replicate 512 (.int .u8 0))
theorem infoBk : (Try.prog.info? 102).map (fun i => (i.zero, i.size, i.bytes)) = some (some zBk, 512, 512) := by kernel_rfl

/-- a device: blocks as they were at the last flush, the writes behind that, block by block -/
structure Dv where
  safe : List Bk
  pend : Int → List Bk
  fuse : Int
  down : Bool
  ops : Int

def kInt : KeyK Int where
  t := 3
  law := int_keyed Try.underlying3
  val := .int .i64
  lit n := .int .i64 n
  ok n := -9223372036854775808 ≤ n ∧ n ≤ 9223372036854775807
  key {x} h := keyOf_int_mk Try.underlying3 (by
    show (decide (IntKind.i64.min ≤ x) && decide (x ≤ IntKind.i64.max)) = true
    rw [Bool.and_eq_true, decide_eq_true_eq, decide_eq_true_eq]
    exact h)
  inj {x y} h := by cases h; rfl

def nilS : Value := .slice none 0 0
/-- what a block of a device is -/
inductive DRol where
  | dev | pmap | safe
  | row (n : Int)

/-- the parts of a device at block g -/
structure DvP (w : World) (g : Nat) (ρ : Nat → Option DRol) (N : Nat) (d : Dv) (vs : Value) (gm : Nat) (m : Int → Option Value) : Prop where
  head : w.heap[g]? = some (.cells #[vs, .map (some gm), .int .i64 d.fuse, .bool d.down, .int .i64 d.ops] 92 (0, 0))
  rg : ρ g = some .dev
  safe : OwnS rBk 102 w 0 (fun _ => False) vs d.safe
  rsafe : ∀ k, vs.ownBlock = some k → ρ k = some .safe
  map : MapG kInt w gm N m
  rm : ρ gm = some .pmap
  pend : ∀ n, kInt.ok n → OwnS rBk 102 w 0 (fun _ => False) ((m n).getD nilS) (d.pend n)
  rpend : ∀ n, kInt.ok n → ∀ k, ((m n).getD nilS).ownBlock = some k → ρ k = some (.row n)
  has : ∀ n, kInt.ok n → ((m n).isSome = true ↔ d.pend n ≠ [])
  rng : ∀ n, d.pend n ≠ [] → 0 ≤ n ∧ n < d.safe.length
  lt : ∀ k, ρ k ≠ none → k < w.heap.size
  size : 64 ≤ d.safe.length ∧ d.safe.length ≤ 512
  fuse : -1 ≤ d.fuse ∧ d.fuse ≤ 9223372036854775807
  ops : 0 ≤ d.ops ∧ d.ops ≤ N
  long : ∀ n, (d.pend n).length ≤ N

/-- block g is a device that stands as d, out of the blocks that ρ names; so far at most N operations -/
def DvAt (w : World) (g : Nat) (ρ : Nat → Option DRol) (N : Nat) (d : Dv) : Prop := ∃ vs gm m, DvP w g ρ N d vs gm m

section
variable {w w' : World} {g : Nat} {ρ : Nat → Option DRol} {N : Nat} {d : Dv} {vs : Value} {gm : Nat} {m : Int → Option Value}

theorem DvP.keep (h : DvP w g ρ N d vs gm m) (hk : Keep (fun k => ρ k ≠ none) w w') : DvP w' g ρ N d vs gm m := { h with
  head := by rw [hk.block g (by rw [h.rg]; simp) (h.lt g (by rw [h.rg]; simp))]; exact h.head
  safe := h.safe.kept (hk.mono fun k hs _ => by
    rcases hs with hs | hs
    · exact hs.elim
    · rw [h.rsafe k hs]; simp)
  map := h.map.kept hk (by rw [h.rm]; simp)
  pend := fun n hn => (h.pend n hn).kept (hk.mono fun k hs _ => by
    rcases hs with hs | hs
    · exact hs.elim
    · rw [h.rpend n hn k hs]; simp)
  lt := fun k hr => Nat.lt_of_lt_of_le (h.lt k hr) hk.size }
theorem DvP.ext (h : DvP w g ρ N d vs gm m) (hx : Ext w w') : DvP w' g ρ N d vs gm m := h.keep (hx.keep _)
theorem DvAt.keep (h : DvAt w g ρ N d) (hk : Keep (fun k => ρ k ≠ none) w w') : DvAt w' g ρ N d := by
  obtain ⟨vs, gm, m, h⟩ := h; exact ⟨vs, gm, m, h.keep hk⟩
theorem DvAt.ext (h : DvAt w g ρ N d) (hx : Ext w w') : DvAt w' g ρ N d := h.keep (hx.keep _)
theorem DvP.mono (h : DvP w g ρ N d vs gm m) {N' : Nat} (hn : N ≤ N') : DvP w g ρ N' d vs gm m := { h with
  map := h.map.mono hn
  ops := ⟨h.ops.1, by have := h.ops.2; omega⟩
  long := fun n => Nat.le_trans (h.long n) hn }
theorem DvAt.mono (h : DvAt w g ρ N d) {N' : Nat} (hn : N ≤ N') : DvAt w g ρ N' d := by
  obtain ⟨vs, gm, m, h⟩ := h; exact ⟨vs, gm, m, h.mono hn⟩
theorem DvP.glt (h : DvP w g ρ N d vs gm m) : g < w.heap.size := h.lt g (by rw [h.rg]; simp)
theorem DvP.ne (h : DvP w g ρ N d vs gm m) : g ≠ gm := fun e => by have := h.rg; rw [e, h.rm] at this; simp at this
theorem DvP.nvs (h : DvP w g ρ N d vs gm m) (k : Nat) (hk : vs.ownBlock = some k) : k ≠ g ∧ k ≠ gm := ⟨fun e => by have := h.rsafe k hk; rw [e, h.rg] at this; simp at this, fun e => by have := h.rsafe k hk; rw [e, h.rm] at this; simp at this⟩
theorem DvP.c0 (h : DvP w g ρ N d vs gm m) : w.cell? ⟨g, 0, none⟩ = some vs := (cell_of_row _ _ _ _ _ _ h.head).trans rfl
theorem DvP.c1 (h : DvP w g ρ N d vs gm m) : w.cell? ⟨g, 1, none⟩ = some (.map (some gm)) := (cell_of_row _ _ _ _ _ _ h.head).trans rfl
theorem DvP.c2 (h : DvP w g ρ N d vs gm m) : w.cell? ⟨g, 2, none⟩ = some (.int .i64 d.fuse) := (cell_of_row _ _ _ _ _ _ h.head).trans rfl
theorem DvP.c3 (h : DvP w g ρ N d vs gm m) : w.cell? ⟨g, 3, none⟩ = some (.bool d.down) := (cell_of_row _ _ _ _ _ _ h.head).trans rfl
theorem DvP.c4 (h : DvP w g ρ N d vs gm m) : w.cell? ⟨g, 4, none⟩ = some (.int .i64 d.ops) := (cell_of_row _ _ _ _ _ _ h.head).trans rfl

/-- other cells ahead in the head -/
theorem DvP.head' (h : DvP w g ρ N d vs gm m) (hk : Keep (fun k => k ≠ g) w w') (hs : w'.heap.size = w.heap.size) (d' : Dv) (N' : Nat) (hn : N ≤ N') (e1 : d'.safe = d.safe) (e2 : d'.pend = d.pend) (hf : -1 ≤ d'.fuse ∧ d'.fuse ≤ 9223372036854775807) (ho : 0 ≤ d'.ops ∧ d'.ops ≤ N')
    (hh : w'.heap[g]? = some (.cells #[vs, .map (some gm), .int .i64 d'.fuse, .bool d'.down, .int .i64 d'.ops] 92 (0, 0))) : DvP w' g ρ N' d' vs gm m where
  head := hh
  rg := h.rg
  safe := by
    rw [e1]
    exact h.safe.kept (hk.mono fun k hs _ => by
      rcases hs with hs | hs
      · exact hs.elim
      · exact (h.nvs k hs).1)
  rsafe := h.rsafe
  map := (h.map.kept hk (fun e => h.ne e.symm)).mono hn
  rm := h.rm
  pend := fun n hn => by
    rw [e2]
    exact (h.pend n hn).kept (hk.mono fun k hs _ => by
      rcases hs with hs | hs
      · exact hs.elim
      · intro e; have := h.rpend n hn k hs; rw [e, h.rg] at this; simp at this)
  rpend := h.rpend
  has := by rw [e2]; exact h.has
  rng := by rw [e1, e2]; exact h.rng
  lt := by rw [hs]; exact h.lt
  size := by rw [e1]; exact h.size
  fuse := hf
  ops := ho
  long := fun n => by rw [e2]; exact Nat.le_trans (h.long n) hn
end

/-! ### a new one -/
def zbs (n : Nat) : Array Value := madeCells (Array.replicate 512 (.int .u8 0)) (n * 512)
theorem zbs_list (n : Nat) : (zbs n).toList = List.replicate (n * 512) (.int .u8 0) := by
  apply List.ext_getElem
  · simp [zbs, madeCells]
  · intro i h1 h2
    simp only [zbs, madeCells, Array.toList_map, Array.toList_range, List.getElem_map, List.getElem_range, List.getElem_replicate, Array.size_replicate]
    rw [getElem!_pos _ _ (by simp; omega)]
    simp
theorem makeBk (n : Nat) (hn : n ≤ 512) (w : World) : (Instr.makeSlice 89 (.int .i64 n) (.int .i64 n)).run Try.prog w = .ok (.slice (some ⟨w.heap.size, 0, none⟩) n n) (w.alloc (.cells (zbs n) 102)) := by
  obtain ⟨i0, hi, hz0, hz1, hz2⟩ := info_parts infoBk
  have h := run_make (P := Try.prog) w 89 102 i0 _ Try.underlying89 hi hz0 .i64 .i64 n n (by omega) (Int.le_refl _) (by rw [hz2]; omega) (by omega)
  rw [hz1] at h
  exact h
theorem cellsOf_rep {α : Type} (n : Nat) (cs : List Value) (x : α) (v : Value) (k : Nat) (h : cs = List.replicate k v) : cellsOf (List.replicate n (cs, x)) = List.replicate (n * k) v := by
  subst h
  induction n with
  | zero => simp [cellsOf]
  | succ n ih => rw [List.replicate_succ, cellsOf, List.flatMap_cons]; rw [cellsOf] at ih; rw [ih, Nat.add_mul, Nat.one_mul, Nat.add_comm, ← List.replicate_append_replicate]
theorem bvs_zb : bvs zb = List.replicate 512 (.int .u8 0) := by
  show (List.replicate 512 (0 : UInt8)).map bv = _
  rw [List.map_replicate]
  rfl
theorem zbs_own {w : World} {g n : Nat} (hg : w.heap[g]? = some (.cells (zbs n) 102 (0, 0))) (hn : n ≤ 512) : OwnS rBk 102 w 0 (fun _ => False) (.slice (some ⟨g, 0, none⟩) n n) (List.replicate n zb) := by
  have hc : cellsOf (List.replicate n (bvs zb, zb)) = List.replicate (n * 512) (.int .u8 0) := cellsOf_rep n _ _ _ 512 bvs_zb
  refine ⟨List.replicate n (bvs zb, zb), by simp, ⟨?_, .inr ⟨g, n, _, by simp, Nat.zero_le _, hg, by simp, by unfold maxLen; omega, ?_, ?_⟩⟩, fun k _ h => h, fun p hp => ?_⟩
  · rw [hc]; simp [rBk]
  · show (zbs n).size = n * 512
    simp [zbs, madeCells]
  · rw [hc, zbs_list, List.length_replicate]
    exact List.take_of_length_le (by simp [rBk])
  · obtain ⟨_, rfl⟩ := List.mem_replicate.1 hp
    exact ⟨rfl, zb_len⟩

def dv0 (n : Nat) : Dv := ⟨List.replicate n zb, fun _ => [], -1, false, 0⟩

set_option maxRecDepth 100000 in
set_option maxHeartbeats 1000000 in
theorem BNew_ok (w : World) (n : Nat) (h1 : 64 ≤ n) (h2 : n ≤ 512) :
    Calls Try.prog 21 #[.int .i64 n] w fun e w' => ∃ g, e = .returned (.tuple #[.pointer (some ⟨g, 0, none⟩), .int .i64 0]) ∧ (∃ ρ, DvAt w' g ρ 0 (dv0 n) ∧ ∀ k, ρ k ≠ none → w.heap.size ≤ k) ∧ Ext w w' := by
  have hmk := fun W => makeBk n h2 W
  have hmm := @run_makeMap Try.prog
  have t1 : ¬ (n : Int) < 64 := by omega
  have t2 : ¬ (512 : Int) < n := by omega
  go_enter Try.func21, Try.ntmps21
  go_wp2_with fail
  obtain ⟨wa, hwa⟩ : ∃ wa, wa = w.alloc (.cells (zbs n) 102) := ⟨_, rfl⟩
  obtain ⟨wb, hwb⟩ : ∃ wb, wb = wa.alloc (.map #[] 0) := ⟨_, rfl⟩
  obtain ⟨wc, hwc⟩ : ∃ wc, wc = wb.alloc (.cells #[.slice (some ⟨w.heap.size, 0, none⟩) n n, .map (some (w.heap.size + 1)), .int .i64 (-1), .bool false, .int .i64 0] 92) := ⟨_, rfl⟩
  have sa : wa.heap.size = w.heap.size + 1 := by rw [hwa]; simp
  have sb : wb.heap.size = w.heap.size + 2 := by rw [hwb]; simp [sa]
  have sc : wc.heap.size = w.heap.size + 3 := by rw [hwc]; simp [sb]
  have xa : Ext w wa := by rw [hwa]; exact (Ext.refl w).alloc _
  have xb : Ext wa wb := by rw [hwb]; exact (Ext.refl wa).alloc _
  have xc : Ext wb wc := by rw [hwc]; exact (Ext.refl wb).alloc _
  have mb : MapG kInt wc (w.heap.size + 1) 0 (fun _ => none) := (show MapG kInt wb (w.heap.size + 1) 0 (fun _ => none) by rw [hwb, ← sa]; exact MapG.made kInt wa).ext xc
  have ha : wc.heap[w.heap.size]? = some (.cells (zbs n) 102 (0, 0)) := (Below.block (xb.trans xc) _ (by omega)).trans (by rw [hwa]; exact heap_alloc_new _ _)
  have hr : wc.heap[w.heap.size + 2]? = some (.cells #[.slice (some ⟨w.heap.size, 0, none⟩) n n, .map (some (w.heap.size + 1)), .int .i64 (-1), .bool false, .int .i64 0] 92 (0, 0)) := by rw [hwc, ← sb]; exact heap_alloc_new _ _
  rw [← hwa, ← hwb, ← hwc]
  clear hwa hwb hwc
  refine bodyPost_ret (v := .tuple #[.pointer (some ⟨w.heap.size + 2, 0, none⟩), .int .i64 0]) (by simp [results, Try.results21, go_sem]) rfl ?_
  refine ⟨w.heap.size + 2, rfl, ⟨fun k => if k = w.heap.size then some .safe else if k = w.heap.size + 1 then some .pmap else if k = w.heap.size + 2 then some .dev else none, ⟨_, _, _, {
    head := hr
    rg := by simp
    safe := zbs_own ha h2
    rsafe := fun k hk => by
      simp only [Value.ownBlock, Option.some.injEq] at hk
      simp [← hk]
    map := mb
    rm := by simp
    pend := fun s hs => OwnS.nil _ _ _ _ _
    rpend := fun s hs k hk => by simp [nilS, Value.ownBlock] at hk
    has := fun s hs => by simp [dv0]
    rng := fun s hs => by simp [dv0] at hs
    lt := fun k hk => by
      try simp only at hk
      split at hk
      · omega
      · split at hk
        · omega
        · split at hk
          · omega
          · exact absurd rfl hk
    size := by simp only [dv0, List.length_replicate]; omega
    fuse := by simp only [dv0]; omega
    ops := by simp only [dv0]; omega
    long := fun s => by simp [dv0] }⟩, fun k hk => ?_⟩, (xa.trans xb).trans xc⟩
  try simp only at hk
  split at hk
  · omega
  · split at hk
    · omega
    · split at hk
      · omega
      · exact absurd rfl hk

set_option maxRecDepth 100000 in
set_option maxHeartbeats 1000000 in
theorem BNew_no (w : World) (n : Int) (hn : -9223372036854775808 ≤ n ∧ n ≤ 9223372036854775807) (h : n < 64 ∨ 512 < n) :
    Calls Try.prog 21 #[.int .i64 n] w fun e w' => e = .returned (.tuple #[.pointer none, .int .i64 21]) ∧ w = w' := by
  obtain ⟨hn1, hn2⟩ := hn
  by_cases h3 : n < 64
  all_goals
    try have t2 : (512 : Int) < n := by omega
    clear h
    go_enter Try.func21, Try.ntmps21
    go_wp2_with fail
    refine bodyPost_ret (v := .tuple #[.pointer none, .int .i64 21]) (by simp [results, Try.results21, go_sem]) rfl ?_
    exact ⟨rfl, rfl⟩
end Go.Proofs.Ytgbiffpnfpdcoaa
