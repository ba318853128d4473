/- Frames that are cut anywhere: what is read of them. Rows of numbers that the call makes. -/
import Derived.Test.YthmpikbbkoblfaaScanL
namespace Go.Proofs.Ythmpikbbkoblfaa
open Go.RowKit
set_option linter.unusedVariables false
set_option linter.unusedSimpArgs false

theorem frameF_cut (k : UInt8) (d : List UInt8) (hd : d.length ≤ 2000) (cut : Nat) (hc : cut < (putF k d).length) : (frameF ((putF k d).take cut)).e ≠ 0 := by
  intro h
  obtain ⟨h1, h2, h3⟩ := frameF_canon _ h
  have h0 := frameF_putF k d [] hd
  rw [List.append_nil] at h0
  have hn := h2
  rw [List.length_take] at hn
  rw [List.take_take, Nat.min_eq_left (by omega)] at h3
  have hs : putF k d = putF (frameF ((putF k d).take cut)).kind (frameF ((putF k d).take cut)).data ++ (putF k d).drop (frameF ((putF k d).take cut)).n := by
    rw [← h3, List.take_append_drop]
  have h4 := frameF_putF (frameF ((putF k d).take cut)).kind (frameF ((putF k d).take cut)).data ((putF k d).drop (frameF ((putF k d).take cut)).n) h1
  rw [← hs, h0] at h4
  have h5 := congrArg Fr.n h4
  dsimp only at h5
  have h6 := congrArg List.length h3
  rw [List.length_take] at h6
  omega

def cntE : List (UInt8 × List UInt8) → Nat → Nat
  | [], _ => 0
  | f :: r, c => if (putF f.1 f.2).length ≤ c then cntE r (c - (putF f.1 f.2).length) + 1 else 0
theorem allF_cons (f : UInt8 × List UInt8) (r : List (UInt8 × List UInt8)) : allF (f :: r) = putF f.1 f.2 ++ allF r := by simp [allF]
theorem scanF_cut (G : List (UInt8 × List UInt8)) (h : ∀ f ∈ G, f.2.length ≤ 2000) : ∀ c, scanF ((allF G).take c) = (G.take (cntE G c), (allF (G.take (cntE G c))).length) := by
  induction G with
  | nil => intro c; simp [allF, cntE]; exact scanF_bad [] (by decide)
  | cons f r ih =>
    intro c
    have hf := h f (by simp)
    rw [allF_cons, List.take_append]
    simp only [cntE]
    by_cases hc : (putF f.1 f.2).length ≤ c
    · rw [if_pos hc, List.take_of_length_le hc, List.take_succ_cons, allF_cons]
      have h0 := frameF_putF f.1 f.2 ((allF r).take (c - (putF f.1 f.2).length)) hf
      rw [scanF_ok _ (by rw [h0]), h0]
      dsimp only
      rw [List.drop_left, ih (fun g hg => h g (by simp [hg])), List.length_append]
    · rw [if_neg hc, show c - (putF f.1 f.2).length = 0 from by omega, List.take_zero, List.append_nil, List.take_zero]
      exact scanF_bad _ (frameF_cut f.1 f.2 hf c (by omega))
theorem cntE_le (G : List (UInt8 × List UInt8)) : ∀ c, cntE G c ≤ G.length := by
  induction G with
  | nil => intro c; simp [cntE]
  | cons f r ih => intro c; simp only [cntE, List.length_cons]; have := ih (c - (putF f.1 f.2).length); split <;> omega
theorem cntE_in (G : List (UInt8 × List UInt8)) : ∀ c j, j < cntE G c → (allF (G.take (j + 1))).length ≤ c := by
  induction G with
  | nil => intro c j h; simp [cntE] at h
  | cons f r ih =>
    intro c j h
    simp only [cntE] at h
    by_cases hc : (putF f.1 f.2).length ≤ c
    · rw [if_pos hc] at h
      rw [List.take_succ_cons, allF_cons, List.length_append]
      cases j with
      | zero => simp [allF]; omega
      | succ j => have := ih (c - (putF f.1 f.2).length) j (by omega); omega
    · rw [if_neg hc] at h; omega
theorem cntE_out (G : List (UInt8 × List UInt8)) : ∀ c, cntE G c < G.length → c < (allF (G.take (cntE G c + 1))).length := by
  induction G with
  | nil => intro c h; simp at h
  | cons f r ih =>
    intro c h
    simp only [cntE] at h ⊢
    by_cases hc : (putF f.1 f.2).length ≤ c
    · rw [if_pos hc] at h ⊢
      rw [List.take_succ_cons, allF_cons, List.length_append]
      have := ih (c - (putF f.1 f.2).length) (by simpa using h)
      omega
    · rw [if_neg hc, List.take_succ_cons, allF_cons, List.length_append]; omega

def endsF (G : List (UInt8 × List UInt8)) : List Nat := (List.range G.length).map fun j => (allF (G.take (j + 1))).length
theorem endsF_len (G : List (UInt8 × List UInt8)) : (endsF G).length = G.length := by simp [endsF]
theorem endsF_get (G : List (UInt8 × List UInt8)) (j : Nat) (h : j < G.length) : (endsF G)[j]? = some (allF (G.take (j + 1))).length := by simp [endsF, h]
theorem endsF_snoc (G : List (UInt8 × List UInt8)) (f : UInt8 × List UInt8) : endsF (G ++ [f]) = endsF G ++ [(allF G ++ putF f.1 f.2).length] := by
  unfold endsF
  rw [List.length_append, List.length_singleton, List.range_succ, List.map_append]
  congr 1
  · apply List.map_congr_left
    intro j hj
    have := List.mem_range.1 hj
    rw [List.take_append_of_le_length (by omega)]
  · simp only [List.map_cons, List.map_nil, ← allF_snoc]
    rw [List.take_of_length_le (by simp)]

/-! ### rows of integers -/
def ivs (l : List Int) : List Value := l.map (Value.int .i64)
@[simp] theorem ivs_length (l : List Int) : (ivs l).length = l.length := by simp [ivs]
theorem ivs_one (l : List Int) : ∀ u ∈ ivs l, u.oneCell' = true := by
  intro u hu; obtain ⟨b, _, rfl⟩ := List.mem_map.1 hu; rfl
theorem ivs_get (l : List Int) (j : Nat) (h : j < l.length) : (ivs l)[j]? = some (.int .i64 l[j]) := by simp [ivs, h]
def OwnI (w : World) (base : Nat) (v : Value) (l : List Int) : Prop := w.ownsRow base 3 1 v l.length (ivs l)
theorem OwnI.slice {w : World} {base : Nat} {v : Value} {l : List Int} (h : OwnI w base v l) : ∃ a c, v = .slice a l.length c := by
  rcases h.2 with ⟨rfl, h2⟩ | ⟨g, cap, cur, rfl, _⟩
  · exact ⟨none, 0, by rw [h2]⟩
  · exact ⟨_, _, rfl⟩
theorem infoI : (Try.prog.info? 3).map (fun i => (i.zero, i.size, i.bytes)) = some (some (.int .i64 0), 1, 8) := by kernel_rfl

theorem wl_appI {w : World} {ops : Array Oper} {rest : List Oper} {o : Oper} {a : Act} {Q : Exit → Act → World → Prop} (hgd : o.guard = none) (s x : Operand) (tx : TypeId)
    (ho : o.op = .call { callee := .builtin .append, args := #[s, x], argTypes := #[43, tx] }) (base : Nat)
    (v : Value) (l : List Int) (hs : a.eval s = v) (happ : OwnI w base v l)
    (y : Value) (m : List Int) (hx : a.eval x = y) (hsrc : Src Try.prog 1 tx y m.length (ivs m) w)
    (hbytes : (l.length + m.length) * 8 ≤ 140737488355328) (hbase : base ≤ w.heap.size)
    (h : ∀ v' w', OwnI w' base v' (l ++ m) → w.grownBy w' v.ownBlock → Below base w w' → (∀ k, v'.ownBlock = some k → v.ownBlock = some k ∨ w.heap.size ≤ k) → wpList Try.prog ops Q rest (a.put o.dst v') w') : wpList Try.prog ops Q (o :: rest) a w := by
  obtain ⟨i0, hi, hz0, hz1, hz2⟩ := info_parts infoI
  refine wpList_plain hgd fun _ hK => wp_append_app s x 43 tx ho base 3 i0 (.int .i64 0) 1 8 Try.underlying43 hi hz0 hz1 hz2 rfl v l.length (ivs l) hs (.inl happ) (ivs_one l) y m.length (ivs m) hx hsrc (by omega) (by omega) hbase ?_
  intro v' w' h1 h2 h3 h4 h5 h6
  have := h3 happ
  rw [← List.length_append, show ivs l ++ ivs m = ivs (l ++ m) from by simp [ivs]] at this
  exact hK _ _ (h v' w' this h4 h5 h6)
theorem src_int (w : World) (g : Nat) (n : Int) (hg : w.heap.size = g) : Src Try.prog 1 43 (.slice (some ⟨g, 0, none⟩) 1 1) [n].length (ivs [n]) (w.alloc (.cells #[.int .i64 n] 3)) := by
  subst hg
  refine Src.ofSlice _ Try.underlying43 ⟨w.heap.size, 0, none⟩ 1 1 (ivs [n]) rfl (fun j u hu => ?_) (ivs_one _)
  cases j with
  | zero => simp [ivs] at hu; subst hu; simp [Addr.add, go_sem]
  | succ j => simp [ivs] at hu

theorem cut0 (a : Option Addr) (cap size : Nat) : cutAt a cap 0 size = a := by
  unfold cutAt
  split
  · rfl
  · cases a with
    | none => rfl
    | some a => simp [Addr.add]
theorem RdF.take {w : World} {n cap : Nat} {a : Option Addr} {fs : List (UInt8 × List UInt8)} (h : RdF w (.slice a n cap) fs) (m : Nat) (hm : m ≤ fs.length) : RdF w (.slice a m cap) (fs.take m) := by
  obtain ⟨a', cap', e, h1, h2, h3, h4⟩ := h
  simp only [Value.slice.injEq] at e
  obtain ⟨rfl, rfl, rfl⟩ := e
  have hl : (fs.take m).length = m := by rw [List.length_take]; omega
  refine ⟨a, cap, by rw [hl], by rw [hl]; omega, h2, fun h0 => h3 (by omega), fun i hi g o ha => ?_⟩
  obtain ⟨c0, d, c1, hd⟩ := h4 i (by omega) g o ha
  rw [List.getElem_take]
  exact ⟨c0, d, c1, hd⟩
def toI (l : List Nat) : List Int := l.map fun x : Nat => (x : Int)
theorem toI_length (l : List Nat) : (toI l).length = l.length := by simp [toI]
theorem toI_snoc (l : List Nat) (n : Nat) : toI (l ++ [n]) = toI l ++ [(n : Int)] := by simp [toI]
theorem OwnI.cellAt {w : World} {base n cap : Nat} {a : Option Addr} {l : List Int} (h : OwnI w base (.slice a n cap) l) (j : Nat) (hj : j < l.length) : ∃ g, a = some ⟨g, 0, none⟩ ∧ g < w.heap.size ∧ w.cell? ⟨g, j, none⟩ = some (.int .i64 l[j]) := by
  rcases h.2 with ⟨e, h0⟩ | ⟨g', cap', cur, e, _⟩
  · omega
  · obtain ⟨a0, c0, e0, _, _, _, h4⟩ := rd_of_own h
    simp only [Value.slice.injEq] at e e0
    obtain ⟨rfl, rfl, rfl⟩ := e0
    obtain ⟨g, o, e1, hg, hc⟩ := h4 (by omega)
    have e2 := e.1
    rw [e1] at e2
    simp only [Option.some.injEq, Addr.mk.injEq, and_true] at e2
    obtain ⟨rfl, rfl⟩ := e2
    refine ⟨g, e1, hg, ?_⟩
    have := hc j (by omega)
    rw [Nat.zero_add] at this
    rw [this, ivs_get l j hj]
theorem toI_ends_get (G : List (UInt8 × List UInt8)) (j : Nat) (hj : j < (toI (endsF G)).length) (h : j < G.length) : (toI (endsF G))[j] = (((allF (G.take (j + 1))).length : Nat) : Int) := by
  have := endsF_get G j h
  rw [List.getElem?_eq_some_iff] at this
  obtain ⟨h1, h2⟩ := this
  simp only [toI, List.getElem_map]
  rw [h2]
theorem goodF_len_take (G : List (UInt8 × List UInt8)) (N : Nat) : (allF (G.take N)).length = if N = 0 then 0 else (allF (G.take (N - 1 + 1))).length := by
  by_cases h : N = 0
  · subst h; simp [allF]
  · rw [if_neg h, show N - 1 + 1 = N from by omega]
end Go.Proofs.Ythmpikbbkoblfaa
