/- AllocPlays, in one text: the two maps side by side, used, the walk, and the joining to the statement: a map takes, gives, commits and resets as the document says, and tells what it says. -/
import Derived.Test.YtbpcgfplokkfpaaAlK
import Derived.Test.YtbpcgfplokkfpaaRAlC
import Derived.Test.YtbpcgfplokkfpaaOpnW
import Derived.Test.YtbpcgfplokkfpaaOpn5
import Derived.Test.YtbpcgfplokkfpaaRows
import Derived.Test.YtbpcgfplokkfpaaOpenA
namespace Go.Proofs.Ytbpcgfplokkfpaa
open Go.ChangeShapes Go.WideShapes Go.ChangeAt Go.RowKit Go.Deep
set_option linter.unusedVariables false
set_option linter.unusedSimpArgs false

/-- the map and the document's, apart -/
structure P2 (w wr : World) (T T' : Nat → Prop) (g g' : Nat) (now last : List Bool) : Prop where
  m : MapAt T wr g now last
  r : RMapAt T' wr g' now last
  lo : ∀ k, T k → w.heap.size ≤ k
  lo' : ∀ k, T' k → w.heap.size ≤ k
  up : ∀ k, T k → k < wr.heap.size
  up' : ∀ k, T' k → k < wr.heap.size
  dj : ∀ k, T k → ¬ T' k
  ext : Ext w wr
section
variable {w wr wa w1 wb w2 : World} {T T' : Nat → Prop} {g g' : Nat} {now last n l : List Bool}
theorem P2.exts (h : P2 w wr T T' g g' now last) (hx : Ext wr w2) : P2 w w2 T T' g g' now last :=
  ⟨h.m.ext hx, h.r.ext hx, h.lo, h.lo', fun k hk => Nat.lt_of_lt_of_le (h.up k hk) hx.size, fun k hk => Nat.lt_of_lt_of_le (h.up' k hk) hx.size, h.dj, h.ext.trans hx⟩
theorem P2.mid (h : P2 w wr T T' g g' now last) (hx1 : Ext wr wa) (hk : Keep (fun k => ¬ T k) wa w1) : RMapAt T' w1 g' now last := (h.r.ext hx1).keep (hk.mono fun k hk' _ ht => h.dj k ht hk')
theorem P2.midExt (h : P2 w wr T T' g g' now last) (hx1 : Ext wr wa) (hk : Keep (fun k => ¬ T k) wa w1) : Ext w w1 := (h.ext.trans hx1).keepT hk h.lo
theorem P2.bothT (h : P2 w wr T T' g g' now last) (hx1 : Ext wr wa) {Ta Tb : Nat → Prop} (hTa : ∀ k, Ta k → Newer T wa w1 k) (hTb : ∀ k, Tb k → Newer T' wb w2 k) (hm : MapAt Ta w1 g n l) (hk : Keep (fun k => ¬ T k) wa w1) (hx2 : Ext w1 wb) (hr : RMapAt Tb w2 g' n l) (hk2 : Keep (fun k => ¬ T' k) wb w2) : P2 w w2 Ta Tb g g' n l := by
  have e1 := h.midExt hx1 hk
  have s1 := hx1.size
  have s2 := hk.size
  have s3 := hx2.size
  have s4 := hk2.size
  refine ⟨(hm.ext hx2).keep (hk2.mono fun k hk' _ ht => ?_), hr, fun k hk' => Newer.lo h.lo (h.ext.trans hx1).size k (hTa k hk'), fun k hk' => Newer.lo h.lo' (e1.trans hx2).size k (hTb k hk'), fun k hk' => ?_, fun k hk' => ?_, fun k h1 h2 => ?_, (e1.trans hx2).keepT hk2 h.lo'⟩
  · rcases hTa k hk' with h1 | h1
    · exact h.dj k h1 ht
    · have := h.up' k ht; omega
  · rcases hTa k hk' with h1 | h1
    · have := h.up k h1; omega
    · have := h1.2; omega
  · rcases hTb k hk' with h1 | h1
    · have := h.up' k h1; omega
    · exact h1.2
  · rcases hTa k h1 with h1 | h1
    · rcases hTb k h2 with h2 | h2
      · exact h.dj k h1 h2
      · have := h.up k h1; omega
    · rcases hTb k h2 with h2 | h2
      · have := h.up' k h2; omega
      · omega
theorem P2.both (h : P2 w wr T T' g g' now last) (hx1 : Ext wr wa) (hm : MapAt (Newer T wa w1) w1 g n l) (hk : Keep (fun k => ¬ T k) wa w1) (hx2 : Ext w1 wb) (hr : RMapAt (Newer T' wb w2) w2 g' n l) (hk2 : Keep (fun k => ¬ T' k) wb w2) : P2 w w2 (Newer T wa w1) (Newer T' wb w2) g g' n l :=
  h.bothT hx1 (fun _ h => h) (fun _ h => h) hm hk hx2 hr hk2
/-- a row of nobody's is turned -/
theorem P2.row (h : P2 w wr T T' g g' now last) {S : Nat → Prop} (hk : Keep (fun j => ¬ S j) wr w2) (hS : ∀ j, S j → ¬ T j ∧ ¬ T' j ∧ w.heap.size ≤ j) : P2 w w2 T T' g g' now last :=
  ⟨h.m.keep (hk.mono fun k hk' _ hs => (hS k hs).1 hk'), h.r.keep (hk.mono fun k hk' _ hs => (hS k hs).2.1 hk'), h.lo, h.lo', fun k hk' => Nat.lt_of_lt_of_le (h.up k hk') hk.size, fun k hk' => Nat.lt_of_lt_of_le (h.up' k hk') hk.size, h.dj, h.ext.keepT hk fun k hk' => (hS k hk').2.2⟩
theorem ownR_of {v : Value} {base : Nat} {xs : List (Int × Int)} (h : OwnS rRn 43 w base (fun _ => False) v xs) : OwnR w base v xs := by
  obtain ⟨gs, rfl, h1, -, h3⟩ := h
  have hc : ∀ gs : List (List Value × (Int × Int)), (∀ p ∈ gs, rRn.rd w (fun _ => False) p.1 p.2) → cellsOf gs = runCells (gs.map (·.2)) := by
    intro gs
    induction gs with
    | nil => intro _; rfl
    | cons p gs ih =>
      intro h
      obtain ⟨c, x⟩ := p
      obtain ⟨_, _, e, ⟨rfl, -⟩, rfl, -⟩ := h (c, x) (by simp)
      dsimp only at e
      subst e
      have := ih fun q hq => h q (by simp [hq])
      simp only [cellsOf, runCells, List.flatMap_cons, List.map_cons] at this ⊢
      rw [this]
      rfl
  rw [hc gs h3] at h1
  unfold OwnR
  rw [List.length_map]
  exact h1
end

theorem rdS_of {w : World} {S : Nat → Prop} {v : Value} {xs : List Run} (h : RdR w v xs) (hb : ∀ r ∈ xs, RunOk r) (hS : 0 < xs.length → ∀ k, v.ownBlock = some k → S k) : RdS rRn w S v xs := by
  have hc : cellsOf (xs.map fun r => ([Value.int .i64 r.1, .int .i64 r.2], r)) = runCells xs := by
    unfold cellsOf runCells
    rw [List.flatMap_map]
  refine ⟨v, xs.map fun r => ([.int .i64 r.1, .int .i64 r.2], r), rfl, by rw [List.map_map]; exact (List.map_id xs).symm, ?_, fun h0 => hS (by simpa using h0), fun p hp => ?_⟩
  · rw [hc, List.length_map]; exact h
  · obtain ⟨r, hr, rfl⟩ := List.mem_map.1 hp
    exact ⟨[_], _, rfl, ⟨rfl, (hb r hr).1⟩, rfl, (hb r hr).2⟩

/-- some of the blocks that are in use -/
def usedIdx (now : List Bool) (n : Nat) (b : Nat) : List Nat := (List.range b).filter fun i => now.getD i false && decide ((i + n) % 3 ≠ 0)
theorem usedIdx_succ (now : List Bool) (n b : Nat) : usedIdx now n (b + 1) = usedIdx now n b ++ if (now.getD b false && decide ((b + n) % 3 ≠ 0)) = true then [b] else [] := by
  unfold usedIdx
  rw [List.range_succ, List.filter_append]
  cases hb : (now.getD b false && decide ((b + n) % 3 ≠ 0)) <;> simp_all
theorem usedIdx_lt {now : List Bool} {n b x : Nat} (h : x ∈ usedIdx now n b) : x < b := by
  exact List.mem_range.1 (List.mem_filter.1 h).1
theorem usedIdx_len (now : List Bool) (n b : Nat) : (usedIdx now n b).length ≤ b := by
  unfold usedIdx
  have := List.length_filter_le (fun i => now.getD i false && decide ((i + n) % 3 ≠ 0)) (List.range b)
  rwa [List.length_range] at this

set_option maxRecDepth 100000 in
set_option maxHeartbeats 2000000 in
theorem used_any (T : Nat → Prop) (w : World) (g : Nat) (now last : List Bool) (h : RMapAt T w g now last) (n : Nat) (hn : n < 3) :
    Calls Try.prog 34 #[.pointer (some ⟨g, 0, none⟩), .int .i64 n] w fun e w' => ∃ v rs, e = .returned v ∧ OwnR w' w.heap.size v rs ∧ (∀ r ∈ rs, RunOk r) ∧ Ext w w' := by
  obtain ⟨an, cn, al, cl, c0, c1, h2, -, -, h5, -⟩ := h.cells
  have H2 := hid h2
  clear h c1 h2
  go_enter Try.func34, Try.ntmps34
  go_wp2_with fail
  go_loopw [5, 6] (fun u5 u6 wr => ∃ i : Nat, u6 = .int .i64 i ∧ i ≤ now.length ∧ OwnI wr w.heap.size u5 (natI (usedIdx now n i)) ∧ Ext w wr) (fun _ u6 _ => now.length - (intOf u6).toNat)
  case atStart => exact ⟨0, rfl, by omega, by simpa [usedIdx, natI] using OwnI.nil w _, Ext.refl _⟩
  case round =>
    obtain ⟨wo, rfl⟩ : ∃ wo : World, wo = wr := ⟨_, rfl⟩
    obtain ⟨i, rfl, hi, hu, hx⟩ := hrel
    obtain ⟨au, cu, rfl⟩ := OwnI.slice hu
    rw [natI_len] at hu ⊢
    have hle := usedIdx_len now n i
    have HU := hid hu
    have HX := hid hx
    have c2 := hx.cellS c0
    clear hu hx
    by_cases hlt : i < now.length
    · obtain ⟨g9, o9, c9, e9, hg9, -, z9⟩ := (H2.out.rdT.ext HX.out).atB i hlt
      simp only [Value.slice.injEq] at e9
      obtain ⟨rfl, -, rfl⟩ := e9
      have hus := usedIdx_succ now n i
      have hgd : now.getD i false = now[i] := by rw [List.getD_eq_getElem?_getD, List.getElem?_eq_getElem hlt]; rfl
      rw [hgd] at hus
      have HUS := hid hus
      generalize now[i] = b at z9 HUS
      clear hus hgd
      have q1 : ((i : Int) + (n : Int)).tmod 3 = (((i + n) % 3 : Nat) : Int) := by rw [Int.tmod_eq_emod_of_nonneg (by omega)]; omega
      cases b
      · go_wp2_with fail
        go_roundw
        case rel => exact ⟨i + 1, by go_num, by omega, by rw [HUS.out]; simpa using HU.out, HX.out⟩
        case measure => simp [intOf]; omega
      · by_cases hq : (i + n) % 3 = 0
        · rw [hq] at q1
          have q2 : ((i : Int) + (n : Int)) % 3 = 0 := by omega
          go_wp2_with fail
          go_roundw
          case rel => exact ⟨i + 1, by go_num, by omega, by rw [HUS.out, hq]; simpa using HU.out, HX.out⟩
          case measure => simp [intOf]; omega
        · have q2 : ¬ ((i : Int) + (n : Int)) % 3 = 0 := by omega
          have q3 : (((i : Int) + (n : Int)) % 3 == 0) = false := by rw [beq_eq_false_iff_ne]; omega
          have q4 : (((i : Int) + (n : Int)) % 3 != 0) = true := by rw [bne_iff_ne]; omega
          clear q1
          have HS := hid (src_int wo wo.heap.size (i : Int) rfl)
          have HOA := hid (HU.out.ext ((Ext.refl wo).alloc (.cells #[.int .i64 (i : Int)] 3)))
          have hwsz := HX.out.size
          go_wp2_with (at_builtin; go_must (refine wl_appI rfl _ _ _ rfl w.heap.size _ (natI (usedIdx now n i)) rfl HOA.out _ [(i : Int)] rfl HS.out (by simp only [List.length_singleton, natI_len]; omega) (by simp; omega) ?_; intro v' w' k1 k4 k5 k6))
          go_roundw
          case rel => exact ⟨i + 1, by go_num, by omega, by (rw [HUS.out]; simp only [Bool.true_and, hq, ne_eq, not_false_eq_true, decide_true, if_true]; rw [natI_snoc]; exact k1), Ext.step (HX.out.alloc _) k5 (Nat.le_refl _)⟩
          case measure => simp [intOf]; omega
    · obtain rfl : i = now.length := by omega
      have hin := natI_in (l := usedIdx now n now.length) (m := now.length) (fun b hb => usedIdx_lt hb) h5
      have HIN := hid hin
      clear hin
      go_wp2_with fail
      refine (Whole_any _ _ (natI (usedIdx now n now.length)) HU.out.rd (by rw [natI_len]; omega) HIN.out).mono ?_
      rintro e w9 ⟨v9, rfl, ho9, -, hb9⟩
      have hx9 : Ext wo w9 := hb9
      have HO9 := hid ho9
      have HX9 := hid hx9
      clear ho9 hb9 hx9
      go_wp2_with fail
      go_ret
      refine ⟨v9, _, rfl, HO9.out.low HX.out.size, fun r hr => ?_, HX.out.trans HX9.out⟩
      have := whole_in (m := 512) HIN.out r hr
      exact ⟨⟨by omega, by omega⟩, by omega, by omega⟩

/-! ### a []Call with its weights -/
theorem opensW5_I : OpensW rI (fun _ _ => True) 3 := opensW_I Try.underlying3 (by kernel_rfl)
theorem opensW5_R : OpensW rRn (fun _ _ => True) 43 :=
  (opensW_St Try.underlying43 (by kernel_rfl) (opensFsW_cons opensW5_I rfl rfl (opensFsW_one opensW5_I rfl rfl))).mono fun _ _ _ => trivial
theorem opensW5_Rs : OpensW (rSl rRn) (fun M xs => xs.length * 16 ≤ M) 37 := (opensW_L opensW5_R Try.underlying37 (by kernel_rfl) (by decide) 16 (by kernel_rfl)).mono fun _ _ h => h.1
theorem opensW5_C : OpensW rCall5 (fun M x => x.2.2.length * 16 ≤ M) 39 :=
  (opensW_St Try.underlying39 (by kernel_rfl) (opensFsW_cons opensW5_I rfl rfl (opensFsW_cons opensW5_I rfl rfl (opensFsW_one opensW5_Rs rfl rfl)))).mono fun _ _ h => h.2.2
theorem opensW5_Cs : OpensW (rSl rCall5) (fun M xs => ∀ x ∈ xs, x.2.2.length * 16 ≤ M) 32 := (opensW_L opensW5_C Try.underlying32 (by kernel_rfl) (by decide) _ rfl).mono fun _ _ h => h.2
set_option maxRecDepth 100000 in
theorem arg_Call5sW {H : Type} {enc : TypeId × Value → H} {W : World} {base : Nat} {v : Value} {d : DataW H} {ps : List MemPlace} (hval : Value.okWide Try.prog W .any base 32 v) (hr : ∃ fuel, DataW.trod enc Try.prog W 0 (fun _ => true) true fuel 32 v.cells.toList = some (d, ps))
    (hw : (DataW.weights Try.prog 32 d).all (· ≤ reachBytes) = true) :
    ∃ xs, RdS rCall5 W (fun k => k < W.heap.size) v xs ∧ ∀ c ∈ xs, c.2.2.length * 16 ≤ 140737488351232 := by
  obtain ⟨a0, len0, cap0, rfl⟩ := okWide_slice Try.underlying32 hval
  obtain ⟨fuel, hf⟩ := hr
  obtain ⟨xs, h1, h2⟩ := opensW5_Cs.op (cs := [.slice a0 len0 cap0]) hf
  exact ⟨xs, h1, fun c hc => by have := h2 _ hw c hc; unfold reachBytes at this; omega⟩
end Go.Proofs.Ytbpcgfplokkfpaa

namespace Go.Proofs.Ytbpcgfplokkfpaa
open Go.RowKit
set_option linter.unusedVariables false
set_option linter.unusedSimpArgs false

theorem giveF_iff (now : List Bool) (rs : List (Int × Int)) : (∃ n, giveF now rs = some n) ∨ giveF now rs = none := by
  cases giveF now rs with
  | none => exact .inr rfl
  | some n => exact .inl ⟨n, rfl⟩

set_option maxRecDepth 100000 in
set_option maxHeartbeats 8000000 in
theorem allocPlays_walk (w : World) (a0 : Int) (h0 : -9223372036854775808 ≤ a0 ∧ a0 ≤ 9223372036854775807) (v : Value) (zs : List Call5) (rd : RdS rCall5 w (fun k => k < w.heap.size) v zs) (sz : ∀ c ∈ zs, c.2.2.length * 16 ≤ 140737488351232) :
    Calls Try.prog 7 #[.int .i64 a0, v] w fun e w' => e = .returned (.bool true) ∧ Below w.heap.size w w' := by
  have HV := hid rd
  have HSZ := hid sz
  obtain ⟨av, cv, rfl, hc1, hc2⟩ := rd.slice
  clear rd sz
  by_cases hb : a0 < 0 ∨ 512 < a0
  · have HB := hid hb
    clear hb
    go_enter Try.func7, Try.ntmps7
    go_wp2_with fail
    refine (awake5_any _).mono ?_
    rintro e w1 ⟨rfl, hx1⟩
    go_wp2_with fail
    refine (NewM_no w1 a0 h0 HB.out).mono ?_
    rintro e w2 ⟨rfl, rfl⟩
    go_wp2_with fail
    refine (RNewM_no w1 a0 h0 HB.out).mono ?_
    rintro e w2 ⟨rfl, rfl⟩
    go_wp2_with fail
    go_ret
    exact ⟨rfl, hx1⟩
  · obtain ⟨N, rfl⟩ : ∃ N : Nat, a0 = (N : Int) := ⟨a0.toNat, by omega⟩
    have hN : N ≤ 512 := by omega
    clear hb h0
    go_enter Try.func7, Try.ntmps7
    go_wp2_with fail
    refine (awake5_any _).mono ?_
    rintro e w1 ⟨rfl, hx1⟩
    go_wp2_with fail
    refine (NewM_ok w1 N hN).mono ?_
    rintro e w2 ⟨g, rfl, hm, hx2⟩
    go_wp2_with fail
    refine (RNewM_ok w2 N hN).mono ?_
    rintro e w3 ⟨g', rfl, hr, hx3⟩
    have HS := hid (show P2 w w3 (fun k => w1.heap.size ≤ k ∧ k < w2.heap.size) (fun k => w2.heap.size ≤ k ∧ k < w3.heap.size) g g' (List.replicate N false) (List.replicate N false) from
      ⟨hm.ext hx3, hr, fun k hk => Nat.le_trans hx1.size hk.1, fun k hk => Nat.le_trans (hx1.trans hx2).size hk.1, fun k hk => Nat.lt_of_lt_of_le hk.2 hx3.size, fun k hk => hk.2, fun k h1 h2 => by omega, hx1.trans (hx2.trans hx3)⟩)
    clear hm hr hx1 hx2 hx3
    go_wp2_with fail
    go_loopw [8] (fun u8 wr => ∃ (i : Nat) (T T' : Nat → Prop) (now last : List Bool), u8 = .int .i64 i ∧ i ≤ zs.length ∧ i ≤ 100 ∧ P2 w wr T T' g g' now last) (fun u8 _ => 100 - (intOf u8).toNat)
    case atStart => exact ⟨0, _, _, _, _, rfl, by omega, by omega, HS.out⟩
    case round =>
      clear HS
      obtain ⟨wo, rfl⟩ : ∃ wo : World, wo = wr := ⟨_, rfl⟩
      obtain ⟨i, T, T', now, last, rfl, hi, hi60, hp⟩ := hrel
      have HP := hid hp
      clear hp
      by_cases hlt : i < zs.length ∧ i < 100
      · obtain ⟨hlt, hlt2⟩ := hlt
        obtain ⟨gl, ol, cl, lv, e, hgl, hgs, d0, d1, d2, hz0, hz1, hrl⟩ := HV.out.atCall5 i hlt
        simp only [Value.slice.injEq] at e
        obtain ⟨rfl, -, rfl⟩ := e
        have hs16 := HSZ.out _ (List.getElem_mem hlt)
        generalize zs[i] = z at d0 d1 d2 hz0 hz1 hrl hs16
        obtain ⟨zk, zn, zl⟩ := z
        dsimp only at d0 d1 d2 hz0 hz1 hrl hs16
        obtain ⟨la, lc, rfl, -, -⟩ := hrl.slice
        have e0 := HP.out.ext.cellS d0
        have e1 := HP.out.ext.cellS d1
        have e2 := HP.out.ext.cellS d2
        have HRL := hid hrl
        have hglw : gl < wo.heap.size := Nat.lt_of_lt_of_le hgl HP.out.ext.size
        clear d0 d1 d2 hrl hgs
        go_upto_region 13 with fail
        have hnew := heap_alloc_new wo (.cells #[.int .i64 zk, .int .i64 zn, .slice la zl.length lc] 39)
        have hxa : Ext wo (wo.alloc (.cells #[.int .i64 zk, .int .i64 zn, .slice la zl.length lc] 39)) := (Ext.refl wo).alloc _
        generalize (wo.alloc (.cells #[.int .i64 zk, .int .i64 zn, .slice la zl.length lc] 39)) = wa at hnew hxa ⊢
        have q0 : wa.cell? ⟨wo.heap.size, 0, none⟩ = some (.int .i64 zk) := (cell_of_row _ _ 0 _ _ _ hnew).trans rfl
        have q1 : wa.cell? ⟨wo.heap.size, 1, none⟩ = some (.int .i64 zn) := (cell_of_row _ _ 1 _ _ _ hnew).trans rfl
        have q2 : wa.cell? ⟨wo.heap.size, 2, none⟩ = some (.slice la zl.length lc) := (cell_of_row _ _ 2 _ _ _ hnew).trans rfl
        have hb0 : wo.heap.size < wa.heap.size := (Array.getElem?_eq_some_iff.1 hnew).1
        have hgT : ∀ k, T k → k ≠ wo.heap.size := fun k hk e => by have := HP.out.up k hk; omega
        have hgT' : ∀ k, T' k → k ≠ wo.heap.size := fun k hk e => by have := HP.out.up' k hk; omega
        obtain ⟨gB, hgB⟩ : ∃ gB, gB = wo.heap.size := ⟨_, rfl⟩
        rw [← hgB] at q0 q1 q2 hgT hgT' ⊢
        have HGB := hid hgB
        have HGT := hid hgT
        have HGT' := hid hgT'
        have HWA := hid hb0
        clear hnew e0 e1 e2 hgB hgT hgT' hb0
        by_cases hk1 : zk = 1
        · subst hk1
          go_wp2_with fail
          by_cases hneg : zn < 0
          · refine (Take_neg _ g zn hneg hz1.1).mono ?_
            rintro e w4 ⟨rfl, hx4⟩
            have q1' := hx4.cellS q1
            go_wp2_with fail
            refine (RTake_neg _ _ zn hneg).mono ?_
            rintro e w5 ⟨rfl, rfl⟩
            clear q1'

            go_wp2_with fail
            refine (SameRuns_any _ _ _ [] [] (RdR.nil _) (RdR.nil _)).mono ?_
            rw [decide_eq_true rfl]
            rintro e w6 ⟨rfl, hx6⟩
            have HX6 := hid (hxa.trans (hx4.trans hx6))
            clear hx4 hx6
            go_wp2_with fail
            go_loopw [15] (fun u15 wr => u15 = .int .i64 0 ∧ wr = w6) (fun _ _ => 0)
            case atStart => exact ⟨rfl, rfl⟩
            case round =>
              obtain ⟨rfl, rfl⟩ := hrel
              go_wp2_with fail
              go_roundw
              case rel => exact ⟨i + 1, T, T', now, last, by go_num, by omega, by omega, HP.out.exts HX6.out⟩
              case measure => simp [intOf]; omega
          · obtain ⟨n, rfl⟩ : ∃ n : Nat, zn = (n : Int) := ⟨zn.toNat, by omega⟩
            by_cases hfr : n ≤ (freeIdx now last).length
            · have HFR := hid hfr
              have h512 : now.length ≤ 512 := by obtain ⟨_, _, h1, h2, h3, h4, h5, -⟩ := HP.out.m; exact h5
              clear hfr
              refine (Take_ok T wa g now last (HP.out.m.ext hxa) n HFR.out).mono ?_
              rintro e w4 ⟨v4, rs, rfl, hc, hf, ho, hm4, hk4⟩
              obtain ⟨ar, cr, rfl⟩ := ho.slice
              have hrl : (rs.map runI).length = rs.length := List.length_map ..
              rw [hrl] at ho ⊢
              have q1' := hk4.cell q1 (fun h => HGT.out _ h rfl)
              have HC := hid hc
              have HF := hid hf
              have HO := hid ho
              have HM4 := hid hm4
              have HK4 := hid hk4
              have hrl5 : rs.length ≤ 512 := by
                have h1 := canon_len rs hc.1
                rw [hf, List.length_take] at h1
                have := free_len now last
                omega
              clear hc hf ho hm4 hk4 hrl
              go_wp2_with fail
              refine (RTake_ok T' w4 g' now last (HP.out.mid hxa HK4.out) n HFR.out).mono ?_
              rintro e w5 ⟨v5, rfl, ho5, hr5, hk5⟩
              have hcw : rs.map runI = whole (natI ((freeIdx now last).take n)) := by rw [← HF.out]; exact canon_whole HC.out
              rw [← hcw] at ho5
              have HO5 := hid ho5
              have ha4 : ∀ j, (Value.slice ar rs.length cr).ownBlock = some j → wa.heap.size ≤ j ∧ j < w4.heap.size := HO.out.lt
              have HA5 := hid (HO.out.past hk5 (fun j hj ht => by have h1 := HP.out.up' j ht; have h2 := ha4 j hj; have := HWA.out; have := HGB.out; omega))
              have HPN := hid (HP.out.bothT hxa (fun k h => .inl h) (fun k h => .inl h) HM4.out HK4.out (Ext.refl w4) hr5 hk5)
              have hs5 := hk5.size
              have HA4 := hid ha4
              clear hcw ho5 hr5 hk5 q1' ha4
              go_wp2_with fail
              refine (SameRuns_any _ _ _ (rs.map runI) (rs.map runI) (ownRuns HA5.out) HO5.out.rd).mono ?_
              rw [decide_eq_true rfl]
              rintro e w6 ⟨rfl, hx6⟩
              have hx6' : Ext w5 w6 := hx6
              have HX6 := hid hx6'
              have hs6 := hx6'.size
              clear hx6 hx6'
              go_wp2_with fail
              go_loopw [15] (fun u15 wr => ∃ (k : Nat) (xs : List Run), u15 = .int .i64 k ∧ k ≤ rs.length ∧ xs.length = rs.length ∧ OwnR wr wa.heap.size (.slice ar rs.length cr) xs ∧ Keep (fun j => ¬ (Value.slice ar rs.length cr).ownBlock = some j) w6 wr) (fun u15 _ => rs.length - (intOf u15).toNat)
              case atStart => exact ⟨0, rs.map runI, rfl, by omega, List.length_map .., ownR_of (HA5.out.ext HX6.out), Keep.refl _ _⟩
              case round =>
                obtain ⟨wq, rfl⟩ : ∃ wq : World, wq = wr := ⟨_, rfl⟩
                obtain ⟨k, xs, rfl, hk, hxs, hown, hkq⟩ := hrel
                have HOW := hid hown
                have HXS := hid hxs
                have HKQ := hid hkq
                by_cases hkl : k < rs.length
                · obtain ⟨rb, rc', e, hrb, hrl, c0, c1, f0, f1⟩ := hown.at k (by omega)
                  simp only [Value.slice.injEq] at e
                  obtain ⟨rfl, -, rfl⟩ := e
                  obtain ⟨z0, c0'⟩ : ∃ z, wq.cell? ⟨rb, k * 2, none⟩ = some (.int .i64 z) := ⟨_, c0⟩
                  have i1 : (k : Int) < (rs.length : Int) := by omega
                  have i3 : (0 : Int) ≤ (k : Int) := by omega
                  clear hown hxs hkq c0 c1 f1
                  go_wp2_with fail
                  go_roundw
                  case rel => exact ⟨k + 1, _, by go_num, by omega, by rw [List.length_set]; exact HXS.out, HOW.out.setFrom k (by rw [HXS.out]; exact hkl) 3 HXS.out.symm, HKQ.out.setCell (p := ⟨rb, k * 2, none⟩) (fun h => h rfl) _⟩
                  case measure => simp [intOf]; omega
                · obtain rfl : k = rs.length := by omega
                  clear hown hxs hkq
                  go_wp2_with fail
                  go_roundw
                  case rel =>
                    refine ⟨i + 1, T, T', _, last, by go_num, by omega, by omega, (HPN.out.exts HX6.out).row (S := fun j => (Value.slice ar rs.length cr).ownBlock = some j) HKQ.out (fun j hj => ?_)⟩
                    have h1 := HA4.out j hj
                    have h2 := HWA.out
                    have h3 := HGB.out
                    have h4 := HP.out.ext.size
                    exact ⟨fun ht => by have := HP.out.up j ht; omega, fun ht => by have := HP.out.up' j ht; omega, by omega⟩
                  case measure => simp [intOf]; omega
            · have hfr2 : ((freeIdx now last).length : Int) < (n : Int) := by omega
              have HFR := hid hfr2
              clear hfr hfr2
              refine (Take_full T wa g now last (HP.out.m.ext hxa) n HFR.out (by omega)).mono ?_
              rintro e w4 ⟨rfl, hx4⟩
              have q1' := hx4.cellS q1
              go_wp2_with fail
              refine (RTake_full T' w4 g' now last (HP.out.r.ext (hxa.trans hx4)) n HFR.out (by omega)).mono ?_
              rintro e w5 ⟨rfl, rfl⟩
              clear q1'

              go_wp2_with fail
              refine (SameRuns_any _ _ _ [] [] (RdR.nil _) (RdR.nil _)).mono ?_
              rw [decide_eq_true rfl]
              rintro e w6 ⟨rfl, hx6⟩
              have HX6 := hid (hxa.trans (hx4.trans hx6))
              clear hx4 hx6
              go_wp2_with fail
              go_loopw [15] (fun u15 wr => u15 = .int .i64 0 ∧ wr = w6) (fun _ _ => 0)
              case atStart => exact ⟨rfl, rfl⟩
              case round =>
                obtain ⟨rfl, rfl⟩ := hrel
                go_wp2_with fail
                go_roundw
                case rel => exact ⟨i + 1, T, T', now, last, by go_num, by omega, by omega, HP.out.exts HX6.out⟩
                case measure => simp [intOf]; omega
        · by_cases hk26 : zk = 2 ∨ zk = 6
          · obtain ⟨gs, hgs, hsrc, hall⟩ := ((HRL.out.ext (HP.out.ext.trans hxa)).ext ((Ext.refl wa).alloc (.cells #[] 43))).src Try.underlying37
            have hgl2 : gs.length = zl.length := by rw [hgs, List.length_map]
            have HMADE := hid (OwnS.made rRn 43 wa (fun _ => False) (fun h => h))
            have HG := hid hgs
            have HGL := hid hgl2
            have HSRC := hid hsrc
            have HALL := hid (show ∀ p ∈ gs, rRn.rd (wa.alloc (.cells #[] 43)) (fun _ => False) p.1 p.2 from fun p hp => by
              obtain ⟨x1, x2, e1, ⟨rfl, b1⟩, rfl, b2⟩ := hall p hp
              exact ⟨_, _, e1, ⟨rfl, b1⟩, rfl, b2⟩)
            clear hgs hsrc hall hgl2
            have hab : wo.heap.size ≤ wa.heap.size := hxa.size
            have hgw : gB < wa.heap.size := by rw [HGB.out]; exact HWA.out
            have hgw2 : ¬ gB = wa.heap.size := by omega
            have hgw3 : ¬ wa.heap.size = gB := by omega
            rcases hk26 with rfl | rfl
            · go_wp2_with (at_builtin; go_must (refine wl_appS rRn rfl _ _ _ _ _ _ 16 rfl Try.underlying37 infoRun rfl wa.heap.size _ _ [] rfl HMADE.out _ gs rfl HSRC.out (fun p hp => HALL.out p hp) (fun _ h => h.elim) (by rw [HGL.out]; simp only [List.length_nil, Nat.zero_add] <;> omega) (by rw [HGL.out]; simp only [List.length_nil, Nat.zero_add] <;> omega) (by simp only [heap_alloc_sz] <;> omega) ?_; intro v4 w4 k1 k2 k3; rw [List.nil_append, ← HG.out] at k1; have hx4 : Ext wa w4 := ((Ext.refl wa).alloc (.cells #[] 43)).grown k2 (fun k hk => by cases hk; exact Nat.le_refl _); have HL4 := hid k1; have HX4 := hid hx4; have q0' := hx4.cellS q0; have q1' := hx4.cellS q1; clear k1 k2 k3 hx4; obtain ⟨a4, c4, rfl⟩ := HL4.out.slice))
              obtain ⟨RS, hRS⟩ : ∃ RS, RS = zl := ⟨_, rfl⟩
              have HXL := hid (hxa.trans HX4.out)
              have HRS := hid (show RdS rRn w4 (fun j => (Value.slice a4 zl.length c4).ownBlock = some j) (.slice a4 zl.length c4) RS from by
                rw [hRS]; exact HL4.out.rd.mono fun k hk _ => by rcases hk with h | h; exact h.elim; exact h)
              have HAP := hid (show ∀ j, (Value.slice a4 zl.length c4).ownBlock = some j → ¬ T j from fun j hj ht => by
                have h1 := (HL4.out.lt j hj).1; have h2 := HP.out.up j ht; omega)
              clear hRS q0' q1' q0 q1 q2
              refine (Give_any T _ g now last (HP.out.m.ext HXL.out) _ _ RS HRS.out).mono ?_
              rintro e w6 (⟨n6, hn6, rfl, hm6, hk6⟩ | ⟨hn6, rfl, hx6⟩)
              · have HM6 := hid hm6
                have HK6 := hid hk6
                have HN6 := hid hn6
                have HR6 := hid (HP.out.mid HXL.out hk6)
                have HRS6 := hid (HRS.out.kept (hk6.mono fun j hj _ => HAP.out j hj))
                clear hm6 hk6 hn6
                go_wp2_with fail
                refine (RGive_any T' w6 g' now last HR6.out _ _ RS HRS6.out).mono ?_
                rintro e w7 (⟨n7, hn7, rfl, hr7, hk7⟩ | ⟨hn7, -, -⟩)
                · obtain rfl : n6 = n7 := Option.some.inj (HN6.out.symm.trans hn7)
                  have HPN := hid (HP.out.both HXL.out HM6.out HK6.out (Ext.refl w6) hr7 hk7)
                  clear hn7 hr7 hk7
                  go_wp2_with fail
                  go_roundw
                  case rel => exact ⟨i + 1, _, _, n6, last, by go_num, by omega, by omega, HPN.out⟩
                  case measure => simp [intOf]; omega
                · exact absurd (HN6.out.symm.trans hn7) (by simp)
              · have HX6 := hid hx6
                have HN6 := hid hn6
                clear hx6 hn6
                go_wp2_with fail
                refine (RGive_any T' w6 g' now last (HP.out.r.ext (HXL.out.trans HX6.out)) _ _ RS (HRS.out.ext HX6.out)).mono ?_
                rintro e w7 (⟨n7, hn7, -, -, -⟩ | ⟨-, rfl, hx7⟩)
                · exact absurd (HN6.out.symm.trans hn7) (by simp)
                · have HX7 := hid hx7
                  clear hx7
                  go_wp2_with fail
                  go_roundw
                  case rel => exact ⟨i + 1, T, T', now, last, by go_num, by omega, by omega, HP.out.exts (HXL.out.trans (HX6.out.trans HX7.out))⟩
                  case measure => simp [intOf]; omega
            · go_wp2_with (at_builtin; go_must (refine wl_appS rRn rfl _ _ _ _ _ _ 16 rfl Try.underlying37 infoRun rfl wa.heap.size _ _ [] rfl HMADE.out _ gs rfl HSRC.out (fun p hp => HALL.out p hp) (fun _ h => h.elim) (by rw [HGL.out]; simp only [List.length_nil, Nat.zero_add] <;> omega) (by rw [HGL.out]; simp only [List.length_nil, Nat.zero_add] <;> omega) (by simp only [heap_alloc_sz] <;> omega) ?_; intro v4 w4 k1 k2 k3; rw [List.nil_append, ← HG.out] at k1; have hx4 : Ext wa w4 := ((Ext.refl wa).alloc (.cells #[] 43)).grown k2 (fun k hk => by cases hk; exact Nat.le_refl _); have HL4 := hid k1; have HX4 := hid hx4; have q0' := hx4.cellS q0; have q1' := hx4.cellS q1; clear k1 k2 k3 hx4; obtain ⟨a4, c4, rfl⟩ := HL4.out.slice))
              refine (Pick_any _ zn 3 hz1 (by omega) (by omega)).mono ?_
              rintro e w' ⟨rfl, rfl⟩
              have hpk := pickF_lt zn (3 : Int).toNat (by decide)
              generalize pickF zn (3 : Int).toNat = pk at hpk ⊢
              have hpk3 : pk < 3 := by have : (3 : Int).toNat = 3 := rfl; omega
              clear hpk q0' q1' q0 q1 q2
              go_wp2_with fail
              refine (used_any T' w4 g' now last (HP.out.r.ext (hxa.trans HX4.out)) pk hpk3).mono ?_
              rintro e w5 ⟨v5, RS, rfl, ho5, hok5, hx5⟩
              obtain ⟨a5, c5, rfl, -, -⟩ := ho5.rd.slice
              have HXL := hid (hxa.trans (HX4.out.trans hx5))
              have hs4 := HX4.out.size
              have HRS := hid (show RdS rRn w5 (fun j => (Value.slice a5 RS.length c5).ownBlock = some j) (.slice a5 RS.length c5) RS from rdS_of ho5.rd hok5 fun _ k hk => hk)
              have HAP := hid (show ∀ j, (Value.slice a5 RS.length c5).ownBlock = some j → ¬ T j from fun j hj ht => by
                have h1 := (ho5.lt j hj).1; have h2 := HP.out.up j ht; omega)
              clear ho5 hok5 hx5
              go_wp2_with fail
              refine (Give_any T _ g now last (HP.out.m.ext HXL.out) _ _ RS HRS.out).mono ?_
              rintro e w6 (⟨n6, hn6, rfl, hm6, hk6⟩ | ⟨hn6, rfl, hx6⟩)
              · have HM6 := hid hm6
                have HK6 := hid hk6
                have HN6 := hid hn6
                have HR6 := hid (HP.out.mid HXL.out hk6)
                have HRS6 := hid (HRS.out.kept (hk6.mono fun j hj _ => HAP.out j hj))
                clear hm6 hk6 hn6
                go_wp2_with fail
                refine (RGive_any T' w6 g' now last HR6.out _ _ RS HRS6.out).mono ?_
                rintro e w7 (⟨n7, hn7, rfl, hr7, hk7⟩ | ⟨hn7, -, -⟩)
                · obtain rfl : n6 = n7 := Option.some.inj (HN6.out.symm.trans hn7)
                  have HPN := hid (HP.out.both HXL.out HM6.out HK6.out (Ext.refl w6) hr7 hk7)
                  clear hn7 hr7 hk7
                  go_wp2_with fail
                  go_roundw
                  case rel => exact ⟨i + 1, _, _, n6, last, by go_num, by omega, by omega, HPN.out⟩
                  case measure => simp [intOf]; omega
                · exact absurd (HN6.out.symm.trans hn7) (by simp)
              · have HX6 := hid hx6
                have HN6 := hid hn6
                clear hx6 hn6
                go_wp2_with fail
                refine (RGive_any T' w6 g' now last (HP.out.r.ext (HXL.out.trans HX6.out)) _ _ RS (HRS.out.ext HX6.out)).mono ?_
                rintro e w7 (⟨n7, hn7, -, -, -⟩ | ⟨-, rfl, hx7⟩)
                · exact absurd (HN6.out.symm.trans hn7) (by simp)
                · have HX7 := hid hx7
                  clear hx7
                  go_wp2_with fail
                  go_roundw
                  case rel => exact ⟨i + 1, T, T', now, last, by go_num, by omega, by omega, HP.out.exts (HXL.out.trans (HX6.out.trans HX7.out))⟩
                  case measure => simp [intOf]; omega
          · have t1 : (zk == 1) = false := by simpa using hk1
            have t2 : (zk == 2) = false := by rw [beq_eq_false_iff_ne]; omega
            have t6 : (zk == 6) = false := by rw [beq_eq_false_iff_ne]; omega
            by_cases hk3 : zk = 3
            · subst hk3
              clear t1 t2 t6 hk1 hk26
              go_wp2_with fail
              refine (Commit_any T wa g now last (HP.out.m.ext hxa)).mono ?_
              rintro e w4 ⟨rfl, hm4, hk4⟩
              have HM4 := hid hm4
              have HK4 := hid hk4
              clear hm4 hk4
              go_wp2_with fail
              refine (RCommit_any T' w4 g' now last (HP.out.mid hxa HK4.out)).mono ?_
              rintro e w5 ⟨rfl, hr5, hk5⟩
              have HPN := hid (HP.out.both hxa HM4.out HK4.out (Ext.refl w4) hr5 hk5)
              clear hr5 hk5
              go_wp2_with fail
              go_roundw
              case rel => exact ⟨i + 1, _, _, now, now, by go_num, by omega, by omega, HPN.out⟩
              case measure => simp [intOf]; omega
            · by_cases hk4 : zk = 4
              · subst hk4
                clear t1 t2 t6 hk1 hk26 hk3
                go_wp2_with fail
                refine (Reset_any T wa g now last (HP.out.m.ext hxa)).mono ?_
                rintro e w4 ⟨rfl, hm4, hk4⟩
                have HM4 := hid hm4
                have HK4 := hid hk4
                clear hm4 hk4
                go_wp2_with fail
                refine (RReset_any T' w4 g' now last (HP.out.mid hxa HK4.out)).mono ?_
                rintro e w5 ⟨rfl, hr5, hk5⟩
                have HPN := hid (HP.out.both hxa HM4.out HK4.out (Ext.refl w4) hr5 hk5)
                clear hr5 hk5
                go_wp2_with fail
                go_roundw
                case rel => exact ⟨i + 1, _, _, last, last, by go_num, by omega, by omega, HPN.out⟩
                case measure => simp [intOf]; omega
              · by_cases hk5 : zk = 5
                · subst hk5
                  clear t1 t2 t6 hk1 hk26 hk3 hk4
                  go_wp2_with fail
                  refine (asked5_any T T' _ g g' now last (HP.out.m.ext hxa) (HP.out.r.ext hxa)).mono ?_
                  rintro e w5 ⟨rfl, hx5⟩
                  have HX5 := hid hx5
                  clear hx5
                  go_wp2_with fail
                  go_roundw
                  case rel => exact ⟨i + 1, T, T', now, last, by go_num, by omega, by omega, HP.out.exts (hxa.trans HX5.out)⟩
                  case measure => simp [intOf]; omega
                · have t3 : (zk == 3) = false := by simpa using hk3
                  have t4 : (zk == 4) = false := by simpa using hk4
                  have t5 : (zk == 5) = false := by simpa using hk5
                  clear hk1 hk26 hk3 hk4 hk5
                  go_wp2_with fail
                  go_roundw
                  case rel => exact ⟨i + 1, T, T', now, last, by go_num, by omega, by omega, HP.out.exts hxa⟩
                  case measure => simp [intOf]; omega
      · have hex : ¬ i < zs.length ∨ (i < zs.length ∧ ¬ i < 100) := by omega
        clear hlt
        rcases hex with hex | ⟨hex, hex2⟩
        all_goals
          go_wp2_with fail
          refine (asked5_any T T' _ g g' now last HP.out.m HP.out.r).mono ?_
          rintro e w5 ⟨rfl, hx5⟩
          go_wp2_with fail
          go_ret
          exact ⟨rfl, HP.out.ext.trans hx5⟩
end Go.Proofs.Ytbpcgfplokkfpaa

namespace Go.Proofs.Ytbpcgfplokkfpaa.allocPlays
open Go.ChangeShapes Go.WideShapes Go.ChangeAt Go.RowKit
open Go.ChangeMaps (open_string shut_string)
set_option linter.unusedVariables false

set_option maxRecDepth 100000 in
set_option maxHeartbeats 1000000 in
theorem lifted (os : Os) (started : os.Started) (H : Type) (enc : TypeId × Value → H) :
    ReturnsInHanded {} Try.checked os 7 .any (Rows.allocPlaysSpec.pre6 enc Try.prog Try.f7 Rows.allocPlaysRow.domain false) (Rows.allocPlaysSpec.post enc Try.prog Try.f7 false true false false) := by
  refine returnsInHanded_of_change_sized (C := Try.checked) own started (by kernel_rfl) Try.func7
    (ChangeSpec.witness6 (enc := enc) (C := Try.checked) false ⟨#[], #[.int .i64 0, .slice none 0 0], []⟩ 8 (by kernel_rfl) (by kernel_rfl) (by kernel_rfl) (by kernel_rfl)) ?_
  intro W base args ds gs before hval0 hW hcnd hsz _
  have hval : ∀ (j : Nat) t v, Try.f7.params[j]? = some t → args[j]? = some v → Value.okWide Try.prog W .any base t v := hval0
  have hW' := hW
  obtain ⟨p, q, hA0, hV, rfl, hfz, hnd⟩ := hW
  have hA : DataW.TrodAll enc Try.prog W 0 (fun _ => true) true Try.f7.params.toList args.toList ds p := hA0
  rw [Try.params7] at hA hval
  obtain ⟨v0, vs0, d0, ds0, p0, q0, hargs, rfl, rfl, h0, r0⟩ := trodAll_cons hA
  obtain ⟨v1, vs1, d1, ds1, p1, q1, rfl, rfl, rfl, h1, r1⟩ := trodAll_cons r0
  obtain ⟨rfl, rfl, rfl⟩ := trodAll_nil r1
  obtain rfl : args = #[v0, v1] := by cases args; simp_all
  obtain ⟨rfl, rfl⟩ := trodVars_none hV
  obtain ⟨a0, rfl, rfl, rfl, w0⟩ := open_int Try.underlying3 (hval 0 3 v0 rfl rfl) h0
  have k1 := h1
  have lt1 : ∀ x ∈ p1, x.block < W.heap.size := by obtain ⟨m, hm⟩ := k1; exact DataW.trod_lt m _ _ _ hm
  obtain ⟨l1, rd1, sz1⟩ := arg_Call5sW (hval 1 32 v1 rfl rfl) h1 (weights_at hsz (j := 1) (t := 32) rfl rfl)
  clear hA0 hval0
  refine (allocPlays_walk W a0 (wf_i64 w0) v1 l1 rd1 sz1).mono fun e W' ⟨he, bel⟩ => ?_
  subst he
  exact ⟨_, rfl, _, _, _, [], _, [], hW', trodAll_mk1 (shut_bool Try.underlying4 _), (trodAll_cons_mk (shut_int Try.underlying3 w0) (trodAll_cons_mk (Below.trod laidOut (by kernel_rfl) (of_decide_eq_true (by kernel_rfl)) k1 bel lt1) trodAll_mk0)), rfl, bel.frame _, fun h => by cases h⟩

theorem over : Rows.allocPlaysRow.holds Try.pinned (OpenSpec.ofChange Rows.allocPlaysSpec) :=
  OpenClaim.holds_of_wide 7 Try.f7 rfl rfl rfl rfl rfl rfl rfl ⟨rfl, rfl, rfl, rfl, rfl⟩ rfl rfl rfl rfl rfl (by kernel_rfl) Try.func7 (by kernel_rfl)
    (of_decide_eq_true (by kernel_rfl)) (by unfold Func.isWrapper; first | (rw [if_pos (by decide +kernel)]; kernel_rfl) | (rw [if_neg (by decide +kernel)]; exact ⟨rfl, rfl⟩))
    (fun os started H enc _ => lifted os started H enc)

theorem proved : Rows.AllocPlaysSaid := over
end Go.Proofs.Ytbpcgfplokkfpaa.allocPlays
