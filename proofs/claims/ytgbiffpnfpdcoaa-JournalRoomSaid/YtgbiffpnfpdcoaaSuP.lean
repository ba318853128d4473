/- super: the plain laws on a calm device. -/
import Derived.Test.YtgbiffpnfpdcoaaSuG
import Derived.Test.YtgbiffpnfpdcoaaLaw
namespace Go.Proofs.Ytgbiffpnfpdcoaa
open Go.RowKit
set_option linter.unusedVariables false
set_option linter.unusedSimpArgs false

/-- not down, no fuse -/
def Calm (d : Dv) : Prop := d.down = false ∧ d.fuse = -1 ∧ ∀ n, d.pend n ≠ [] → 0 ≤ n ∧ n < d.safe.length
theorem opF_calm {d : Dv} (h : Calm d) {n : Int} (hn : 0 ≤ n ∧ n < d.safe.length) : opF d n 0 = (0, { d with ops := d.ops + 1 }) := by
  obtain ⟨h1, h2, -⟩ := h
  unfold opF
  rw [if_neg (by rw [h1]; simp), if_neg (by omega), if_neg (by simp), if_neg (by rw [h2]; omega), if_neg (by rw [h2]; omega)]
theorem calm_ops {d : Dv} (h : Calm d) (k : Int) : Calm { d with ops := k } := h
theorem cur_ops (d : Dv) (k n : Int) : curF { d with ops := k } n = curF d n := rfl

theorem write_calm {d : Dv} (h : Calm d) {n : Int} (hn : 0 ≤ n ∧ n < d.safe.length) {b : List UInt8} (hb : b.length = 512) :
    ∃ d', writeF d n b = (0, d') ∧ Calm d' ∧ d'.safe.length = d.safe.length ∧ (∀ j, curF d' j = if j = n then b else curF d j) := by
  refine ⟨{ d with ops := d.ops + 1, pend := setP d.pend n (d.pend n ++ [b]) }, ?_, ⟨h.1, h.2.1, fun j hj => ?_⟩, rfl, fun j => ?_⟩
  · unfold writeF
    rw [if_pos hb, opF_calm h hn]; rfl
  · by_cases e : j = n
    · subst e; exact hn
    · simp only [setP, if_neg e] at hj
      exact h.2.2 j hj
  · unfold curF
    by_cases e : j = n
    · subst e; simp [setP]
    · simp [setP, e]
theorem flush_calm {d : Dv} (h : Calm d) (hs : 0 < d.safe.length) :
    ∃ d', flushF d = (0, d') ∧ Calm d' ∧ d'.safe.length = d.safe.length ∧ (∀ j : Int, 0 ≤ j → j < d.safe.length → curF d' j = curF d j) := by
  refine ⟨{ d with ops := d.ops + 1, safe := (List.range d.safe.length).map fun (j : Nat) => curF d (j : Int), pend := fun _ => [] }, ?_, ⟨h.1, h.2.1, fun j hj => absurd rfl hj⟩, by simp, fun j hj hl => ?_⟩
  · unfold flushF
    rw [opF_calm h ⟨by omega, by omega⟩]; rfl
  · obtain ⟨k, rfl⟩ : ∃ k : Nat, j = k := ⟨j.toNat, by omega⟩
    have hk : k < d.safe.length := by omega
    show (([] : List Bk).getLast?).getD _ = _
    simp [hk]
theorem lay_calm {d : Dv} (h : Calm d) {n : Int} (hn : 0 ≤ n ∧ n < d.safe.length) (c : Nat) {data : List UInt8} (hd : data.length ≤ 400) :
    ∃ d', layF d n c data = (0, d') ∧ Calm d' ∧ d'.safe.length = d.safe.length ∧ (∀ j : Int, 0 ≤ j → j < d.safe.length → curF d' j = if j = n then recB c data else curF d j) := by
  obtain ⟨d1, e1, c1, l1, v1⟩ := write_calm h hn (recB_len c data hd).2.1
  obtain ⟨d2, e2, c2, l2, v2⟩ := flush_calm c1 (by rw [l1]; omega)
  refine ⟨d2, ?_, c2, l2.trans l1, fun j hj hl => ?_⟩
  · unfold layF
    rw [e1, if_neg (by simp)]
    exact e2
  · rw [v2 j hj (by rw [l1]; exact hl), v1]
theorem format_calm {d : Dv} (h : Calm d) {n : Int} (hn : 0 ≤ n ∧ n < (d.safe.length : Int) - 1) {data : List UInt8} (hd : data.length ≤ 400) :
    ∃ d', formatF d n data = (0, d') ∧ Calm d' ∧ d'.safe.length = d.safe.length ∧ (∀ j : Int, 0 ≤ j → j < d.safe.length → curF d' j = if j = n then recB 0 data else if j = n + 1 then zb else curF d j) := by
  obtain ⟨d1, e1, c1, l1, v1⟩ := write_calm h (n := n + 1) ⟨by omega, by omega⟩ zb_len
  obtain ⟨d2, e2, c2, l2, v2⟩ := flush_calm c1 (by rw [l1]; omega)
  obtain ⟨d3, e3, c3, l3, v3⟩ := lay_calm c2 (n := n) (by rw [l2, l1]; omega) 0 hd
  refine ⟨d3, ?_, c3, (l3.trans l2).trans l1, fun j hj hl => ?_⟩
  · unfold formatF
    rw [if_neg (by unfold wrongF; rw [if_neg (by omega)]; simp), if_neg (by omega), e1, if_neg (by simp), e2, if_neg (by simp)]
    exact e3
  · rw [v3 j hj (by rw [l2, l1]; exact hl), v2 j hj (by rw [l1]; exact hl), v1]

theorem slF_rec (c : Nat) (hc : c ≤ 1000000000) {data : List UInt8} (hd : data.length ≤ 400) : slF (recB c data) = ⟨true, c, data⟩ := by
  have h3 := (recB_len c data hd).2.2
  have hf := frameF_putF 115 (putU c ++ data) (List.replicate (512 - (putF 115 (putU c ++ data)).length) 0) (by omega)
  have hu := uintF_putU c (by omega) data
  unfold slF
  rw [show recB c data = putF 115 (putU c ++ data) ++ List.replicate (512 - (putF 115 (putU c ++ data)).length) 0 by rw [recB], hf]
  dsimp only
  rw [hu, if_neg (by simp)]
  dsimp only
  rw [List.drop_left]
  congr 1
  unfold wrap64
  omega
theorem slF_zb : slF zb = sl0 := by
  have h : (frameF zb).kind = 0 := by
    unfold frameF
    repeat' split
    all_goals first | rfl | (show zb.getD 4 0 = 0; unfold zb; rw [List.getD_eq_getElem?_getD, List.getElem?_replicate]; rfl)
  unfold slF
  rw [if_pos (.inr (by rw [h]; decide))]

theorem both_calm {d : Dv} (h : Calm d) {n : Int} (hn : 0 ≤ n ∧ n < (d.safe.length : Int) - 1) :
    ∃ d', bothF d n = ⟨slF (curF d n), slF (curF d (n + 1)), newF (slF (curF d n)) (slF (curF d (n + 1))), 0, d'⟩ ∧ Calm d' ∧ d'.safe.length = d.safe.length ∧ ∀ j, curF d' j = curF d j := by
  have e1 := opF_calm h (n := n) ⟨by omega, by omega⟩
  have e2 := opF_calm (calm_ops h (d.ops + 1)) (n := n + 1) ⟨by omega, by show n + 1 < (d.safe.length : Int); omega⟩
  refine ⟨_, ?_, calm_ops h (d.ops + 1 + 1), rfl, fun j => rfl⟩
  unfold bothF
  rw [e1]
  dsimp only
  rw [e2, if_neg (by simp), if_neg (by simp)]
  rfl
theorem load_calm {d : Dv} (h : Calm d) {n : Int} (hn : 0 ≤ n ∧ n < (d.safe.length : Int) - 1) :
    ∃ d', Calm d' ∧ d'.safe.length = d.safe.length ∧ (∀ j, curF d' j = curF d j) ∧ loadF d n = (if newF (slF (curF d n)) (slF (curF d (n + 1))) < 0 then ⟨[], 0, 30, d'⟩ else if newF (slF (curF d n)) (slF (curF d (n + 1))) = 0 then ⟨(slF (curF d n)).data, (slF (curF d n)).count, 0, d'⟩ else ⟨(slF (curF d (n + 1))).data, (slF (curF d (n + 1))).count, 0, d'⟩) := by
  obtain ⟨d', e, c, l, v⟩ := both_calm h hn
  refine ⟨d', c, l, v, ?_⟩
  unfold loadF
  rw [if_neg (by unfold wrongF; rw [if_neg (by omega)]; simp), e, if_neg (by simp)]
theorem store_calm {d : Dv} (h : Calm d) {n : Int} (hn : 0 ≤ n ∧ n < (d.safe.length : Int) - 1) {data : List UInt8} (hd : data.length ≤ 400) :
    ∃ d', Calm d' ∧ d'.safe.length = d.safe.length ∧ (∀ j, curF d' j = curF d j) ∧ storeF d n data = (if newF (slF (curF d n)) (slF (curF d (n + 1))) < 0 then (30, d') else layF d' (n + 1 - newF (slF (curF d n)) (slF (curF d (n + 1)))) ((if newF (slF (curF d n)) (slF (curF d (n + 1))) = 0 then (slF (curF d n)).count else (slF (curF d (n + 1))).count) + 1).toNat data) := by
  obtain ⟨d', e, c, l, v⟩ := both_calm h hn
  refine ⟨d', c, l, v, ?_⟩
  unfold storeF newC
  rw [if_neg (by unfold wrongF; rw [if_neg (by omega)]; simp), if_neg (by omega), e, if_neg (by simp)]
theorem calm_new (n : Nat) : Calm (dv0 n) := ⟨rfl, rfl, fun j hj => absurd rfl hj⟩
theorem cur_new {n : Nat} {j : Int} (h0 : 0 ≤ j) (h1 : j < n) : curF (dv0 n) j = zb := by
  obtain ⟨k, rfl⟩ : ∃ k : Nat, j = k := ⟨j.toNat, by omega⟩
  have hk : k < n := by omega
  show (([] : List Bk).getLast?).getD ((List.replicate n zb).getD (k : Int).toNat zb) = _
  simp [hk, List.getD_eq_getElem?_getD]
end Go.Proofs.Ytgbiffpnfpdcoaa
