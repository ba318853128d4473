/- inode's At, Copy, Bytes, walked. -/
import Derived.Test.YtbpcgfplokkfpaaNodeC
import Derived.Test.YtbpcgfplokkfpaaGetA
namespace Go.Proofs.Ytbpcgfplokkfpaa
open Go.RowKit
set_option linter.unusedVariables false
set_option linter.unusedSimpArgs false

set_option maxRecDepth 100000 in
set_option maxHeartbeats 1000000 in
theorem nodeAt_bad (w : World) (g : Nat) (q : Option Nat) (s n : Int) (L : List Int) (h : NodeAt w g q s L) (hs : 0 ≤ s ∧ s ≤ 32768) (hn : -9223372036854775808 ≤ n ∧ n ≤ 9223372036854775807) (hb : n < 0 ∨ s ≤ n) :
    Calls Try.prog 19 #[.pointer (some ⟨g, 0, none⟩), .int .i64 n] w fun e w' => e = .returned (.tuple #[.int .i64 0, .int .i64 0, .int .i64 60]) ∧ Below w.heap.size w w' := by
  obtain ⟨na, nc, c0, c1, -⟩ := h.cells
  have hb2 : n < 0 ∨ (0 ≤ n ∧ s ≤ n) := by omega
  clear hb
  rcases hb2 with hb | ⟨hb, hb2⟩
  all_goals
    go_enter Try.func19, Try.ntmps19
    go_wp2_with fail
    go_step3
    go_wp2_with fail
    rw [Exit.noGoto_ret]
    go_ret3
    exact ⟨rfl, by show Ext _ _; (· repeat (first | (with_reducible assumption) | exact Ext.refl _ | refine Ext.alloc ?_ _ | refine Ext.drew ?_ | refine Ext.drewN ?_ _ | (apply Ext.snart; (with_reducible assumption))))⟩

set_option maxRecDepth 100000 in
set_option maxHeartbeats 1000000 in
theorem nodeAt_any (w : World) (g : Nat) (q : Option Nat) (s n b : Int) (L : List Int) (h : NodeAt w g q s L) (ho : NodeOk s L) (h0 : 0 ≤ n) (h1 : n < s) (hb : L[(n / 512).toNat]? = some b) :
    Calls Try.prog 19 #[.pointer (some ⟨g, 0, none⟩), .int .i64 n] w fun e w' => e = .returned (.tuple #[.int .i64 b, .int .i64 (n % 512), .int .i64 0]) ∧ Below w.heap.size w w' := by
  have H := hid h
  have hs2 := ho.hi
  have hl64 := ho.len64
  have hwl := whole_len L
  have HB := hid (whole_in ho.blk)
  obtain ⟨na, nc, c0, c1, hr, -, -, -, hnc⟩ := h.cells
  have HR := hid hr
  have HEW := hid (expand_whole L)
  have HBB := hid hb
  clear h hr hb ho
  generalize whole L = X at *
  go_enter Try.func19, Try.ntmps19
  go_wp2_with fail
  go_step3
  go_wp2_with fail
  go_step3
  go_wp2_with fail
  go_loopw [7, 32] (fun u7 u32 wr => ∃ i : Nat, ∃ k : Int, i ≤ X.length ∧ u32 = .int .i64 i ∧ u7 = .int .i64 k ∧ 0 ≤ k ∧ k ≤ 64 ∧ (expand (X.drop i))[k.toNat]? = some b ∧ Ext w wr) (fun _ i _ => X.length - (intOf i).toNat)
  case atStart => exact ⟨0, n / 512, by omega, rfl, rfl, by omega, by omega, by rw [List.drop_zero, HEW.out]; exact HBB.out, by (· repeat (first | (with_reducible assumption) | exact Ext.refl _ | refine Ext.alloc ?_ _ | refine Ext.drew ?_ | refine Ext.drewN ?_ _ | (apply Ext.snart; (with_reducible assumption))))⟩
  case round =>
    obtain ⟨i, k, hi, rfl, rfl, hk0, hk1, hget, hx⟩ := hrel
    have HG := hid hget
    have hin := HB.out
    clear hget
    by_cases hlt : i < X.length
    · obtain ⟨gl, ol, cl, e, hgl, d0, d1⟩ := (HR.out.ext hx).at i hlt
      simp only [Value.slice.injEq] at e
      obtain ⟨rfl, -, rfl⟩ := e
      have hri := hin _ (List.getElem_mem hlt)
      have hlens : ∀ r ∈ X.drop i, 1 ≤ r.2 := fun r hr => (hin r (List.mem_of_mem_drop hr)).2.1
      have hgx := expand_get (X.drop i) k hk0 hlens X[i] (X.drop (i + 1)) (List.drop_eq_getElem_cons hlt)
      generalize X[i] = r at d0 d1 hri hgx
      obtain ⟨rf, rl⟩ := r
      dsimp only at d0 d1 hri hgx
      obtain ⟨r1, r2, r3⟩ := hri
      rw [HG.out] at hgx
      have HGX := hid hgx
      clear hgx hlens hin
      by_cases hkl : k < rl
      · have hbe : b = rf + k := by have := HGX.out.1 hkl; simpa using this
        have HBE := hid hbe
        clear hbe
        go_wp2_with fail
        rw [Exit.noGoto_ret]
        go_ret3
        exact ⟨by rw [HBE.out]; rfl, by show Ext _ _; (· repeat (first | (with_reducible assumption) | exact Ext.refl _ | refine Ext.alloc ?_ _ | refine Ext.drew ?_ | refine Ext.drewN ?_ _ | (apply Ext.snart; (with_reducible assumption))))⟩
      · go_wp2_with fail
        go_roundw
        case rel => exact ⟨i + 1, k - rl, by omega, by go_num, rfl, by omega, by omega, by rw [← HGX.out.2 (by omega)], by (· repeat (first | (with_reducible assumption) | exact Ext.refl _ | refine Ext.alloc ?_ _ | refine Ext.drew ?_ | refine Ext.drewN ?_ _ | (apply Ext.snart; (with_reducible assumption))))⟩
        case measure => simp [intOf]; omega
    · exfalso
      have := HG.out
      rw [List.drop_of_length_le (by omega)] at this
      simp [expand] at this

/-- P6.4: a node's bytes -/
def runB (r : Run) : List UInt8 := putU r.1.toNat ++ putU r.2.toNat
def nodeB (s : Int) (L : List Int) : List UInt8 := putU s.toNat ++ putU (whole L).length ++ (whole L).flatMap runB

theorem runB_len (r : Run) : (runB r).length ≤ 20 := by
  have := putU_len r.1.toNat
  have := putU_len r.2.toNat
  unfold runB; rw [List.length_append]; omega
theorem runsB_len (l : List Run) : (l.flatMap runB).length ≤ 20 * l.length := by
  induction l with
  | nil => simp
  | cons r l ih => have := runB_len r; simp only [List.flatMap_cons, List.length_append, List.length_cons]; omega

set_option maxRecDepth 100000 in
set_option maxHeartbeats 2000000 in
theorem nodeBytes_any (w : World) (g : Nat) (q : Option Nat) (s : Int) (L : List Int) (h : NodeAt w g q s L) (ho : NodeOk s L) :
    Calls Try.prog 42 #[.pointer (some ⟨g, 0, none⟩)] w (NewB (nodeB s L) w) := by
  have H := hid h
  have hs1 := ho.lo
  have hs2 := ho.hi
  have hl64 := ho.len64
  have hwl := whole_len L
  have HB := hid (whole_in ho.blk)
  obtain ⟨na, nc, c0, c1, hr, -, -, -, hnc⟩ := h.cells
  have HR := hid hr
  have HNB : Hid (nodeB s L = putU s.toNat ++ putU (whole L).length ++ (whole L).flatMap runB) := hid rfl
  obtain ⟨sn, rfl⟩ := Int.eq_ofNat_of_zero_le hs1
  rw [Int.toNat_natCast] at HNB
  have hpl := putU_len sn
  have hpl2 := putU_len (whole L).length
  clear h hr ho
  generalize whole L = X at *
  go_enter Try.func42, Try.ntmps42
  go_wp2_with fail
  refine Calls.mono (PutUint_any _ _ ?_ _ ?_ ?_ ?_) ?_
  rotate_left
  (first | (with_reducible assumption) | (exact RdB.nil _) | (apply RdB.ext; (with_reducible assumption); (· repeat (first | (with_reducible assumption) | exact Ext.refl _ | refine Ext.alloc ?_ _ | refine Ext.drew ?_ | refine Ext.drewN ?_ _ | (apply Ext.snart; (with_reducible assumption))))))
  (first | omega | (simp only [List.length_append, List.length_cons, List.length_nil]; omega) | omega)
  (first | omega | (simp only [List.length_append, List.length_cons, List.length_nil]; omega) | omega)
  (rintro e w' ⟨v', rfl, ho', hb'⟩; have hr' := rdB_own ho'; obtain ⟨a', c', rfl⟩ := OwnB.slice ho'; (try simp only [List.nil_append, List.length_append, List.length_cons, List.length_nil, Nat.zero_add, Nat.reduceAdd] at ho' hr'); have hx' := Ext.of hb'; clear hb')
  have c1' := Ext.cellS hx' c1
  go_wp2_with fail
  refine Calls.mono (PutUint_any _ _ ?_ _ ?_ ?_ ?_) ?_
  rotate_left
  (first | (with_reducible assumption) | (exact RdB.nil _) | (apply RdB.ext; (with_reducible assumption); (· repeat (first | (with_reducible assumption) | exact Ext.refl _ | refine Ext.alloc ?_ _ | refine Ext.drew ?_ | refine Ext.drewN ?_ _ | (apply Ext.snart; (with_reducible assumption))))))
  (first | omega | (simp only [List.length_append, List.length_cons, List.length_nil]; omega) | omega)
  (first | omega | (simp only [List.length_append, List.length_cons, List.length_nil]; omega) | omega)
  (rintro e w' ⟨v', rfl, ho', hb'⟩; have hr' := rdB_own ho'; obtain ⟨a', c', rfl⟩ := OwnB.slice ho'; (try simp only [List.nil_append, List.length_append, List.length_cons, List.length_nil, Nat.zero_add, Nat.reduceAdd] at ho' hr'); have hx' := Ext.of hb'; clear hb')
  have hX := (show Ext w w' by (· repeat (first | (with_reducible assumption) | exact Ext.refl _ | refine Ext.alloc ?_ _ | refine Ext.drew ?_ | refine Ext.drewN ?_ _ | (apply Ext.snart; (with_reducible assumption)))))
  have c1'' := Ext.cellS hX c1
  go_wp2_with fail
  clear c1' c1''
  go_loopw [3, 27] (fun u3 u27 wr => ∃ i : Nat, i ≤ X.length ∧ u27 = .int .i64 i ∧ OwnB wr w.heap.size u3 (putU sn ++ putU X.length ++ (X.take i).flatMap runB) ∧ Ext w wr) (fun _ i _ => X.length - (intOf i).toNat)
  case atStart => exact ⟨0, by omega, rfl, by simpa using OwnB.low ho' (Ext.size (by assumption)), hX⟩
  case round =>
    obtain ⟨i, hi, rfl, ho', hx'⟩ := hrel
    have hr' := rdB_own ho'
    have hin := HB.out
    have hbl := runsB_len (X.take i)
    rw [List.length_take, Nat.min_eq_left hi] at hbl
    have hrl : (putU sn ++ putU X.length ++ (X.take i).flatMap runB).length ≤ 2000 := by
      rw [List.length_append, List.length_append]; omega
    by_cases hlt : i < X.length
    · obtain ⟨gl, ol, cl, e, hgl, d0, d1⟩ := (HR.out.ext hx').at i hlt
      simp only [Value.slice.injEq] at e
      obtain ⟨rfl, -, rfl⟩ := e
      have hri := hin _ (List.getElem_mem hlt)
      have htk := List.take_succ_eq_append_getElem hlt
      have hbs : (X.take (i + 1)).flatMap runB = (X.take i).flatMap runB ++ (putU X[i].1.toNat ++ putU X[i].2.toNat) := by
        rw [htk, List.flatMap_append]
        simp [runB]
      generalize X[i] = r at d0 d1 hri hbs
      obtain ⟨rf, rl⟩ := r
      dsimp only at d0 d1 hri hbs
      obtain ⟨r1, r2, r3⟩ := hri
      obtain ⟨rf, rfl⟩ := Int.eq_ofNat_of_zero_le r1
      obtain ⟨rl, rfl⟩ := Int.eq_ofNat_of_zero_le (show 0 ≤ rl by omega)
      rw [Int.toNat_natCast, Int.toNat_natCast] at hbs
      have hpf := putU_len rf
      have HBS := hid hbs
      clear hin htk hbs
      generalize (X.take i).flatMap runB = Y at *
      have hrf : rf ≤ 512 := by omega
      have hrl2 : rl ≤ 512 := by omega
      go_wp2_with fail
      refine Calls.mono (PutUint_any _ _ ?_ rf ?_ ?_ ?_) ?_
      rotate_left
      (first | (with_reducible assumption) | (exact RdB.nil _) | (apply RdB.ext; (with_reducible assumption); (· repeat (first | (with_reducible assumption) | exact Ext.refl _ | refine Ext.alloc ?_ _ | refine Ext.drew ?_ | refine Ext.drewN ?_ _ | (apply Ext.snart; (with_reducible assumption))))))
      omega
      omega
      rintro e w5 ⟨v5, rfl, ho5, hb5⟩
      have hx5 := Ext.of hb5
      have b1 : w5.cell? ⟨wr.heap.size, 1, none⟩ = some (.int .i64 (rl : Int)) := Ext.cellS hx5 (by simp [go_sem])
      have hr5 := rdB_own ho5
      clear hb5 ho5
      go_wp2_with fail
      refine Calls.mono (PutUint_any _ _ ?_ rl ?_ ?_ ?_) ?_
      rotate_left
      (first | (with_reducible assumption) | (exact RdB.nil _) | (apply RdB.ext; (with_reducible assumption); (· repeat (first | (with_reducible assumption) | exact Ext.refl _ | refine Ext.alloc ?_ _ | refine Ext.drew ?_ | refine Ext.drewN ?_ _ | (apply Ext.snart; (with_reducible assumption))))))
      omega
      (rw [List.length_append]; omega)
      rintro e w6 ⟨v6, rfl, ho6, hb6⟩
      have hx6 := Ext.of hb6
      have HO6 := hid ho6
      clear hb6 ho6
      have hs56 := hx5.size
      have hsx := hx'.size
      have hs56' : wr.heap.size + 1 ≤ w5.heap.size := by simpa using hs56
      go_wp2_with fail
      go_roundw
      case rel => exact ⟨i + 1, by omega, by go_num, by rw [HBS.out]; simpa [List.append_assoc] using OwnB.low HO6.out (show w.heap.size ≤ w5.heap.size by omega), by (· repeat (first | (with_reducible assumption) | exact Ext.refl _ | refine Ext.alloc ?_ _ | refine Ext.drew ?_ | refine Ext.drewN ?_ _ | (apply Ext.snart; (with_reducible assumption))))⟩
      case measure => simp [intOf]; omega
    · obtain rfl : i = X.length := by omega
      rw [List.take_length, ← HNB.out] at ho'
      go_wp2_with fail
      go_ret
      exact ⟨_, rfl, ho', hx'⟩
end Go.Proofs.Ytbpcgfplokkfpaa
