/- super: on a calm device; awake. -/
import Derived.Test.YtgbiffpnfpdcoaaSuG
import Derived.Test.YtgbiffpnfpdcoaaLaw
import Derived.Lib.SlBytesConst

/- super: the plain laws on a calm device. -/
namespace Go.Proofs.Ytgbiffpnfpdcoaa
open Go.RowKit
set_option linter.unusedVariables false
set_option linter.unusedSimpArgs false

/-- not down, no fuse -/
def Calm (d : Dv) : Prop := d.down = false ∧ d.fuse = -1 ∧ ∀ n, d.pend n ≠ [] → 0 ≤ n ∧ n < d.safe.length
theorem opF_calm {d : Dv} (h : Calm d) {n : Int} (hn : 0 ≤ n ∧ n < d.safe.length) : opF d n 0 = (0, { d with ops := d.ops + 1 }) := by
  obtain ⟨h1, h2, -⟩ := h
  unfold opF
  rw [if_neg (by rw [h1]; simp), if_neg (by omega), if_neg (by simp), if_neg (by rw [h2]; omega), if_neg (by rw [h2]; omega)]
theorem calm_ops {d : Dv} (h : Calm d) (k : Int) : Calm { d with ops := k } := h
theorem cur_ops (d : Dv) (k n : Int) : curF { d with ops := k } n = curF d n := rfl

theorem write_calm {d : Dv} (h : Calm d) {n : Int} (hn : 0 ≤ n ∧ n < d.safe.length) {b : List UInt8} (hb : b.length = 512) :
    ∃ d', writeF d n b = (0, d') ∧ Calm d' ∧ d'.safe.length = d.safe.length ∧ (∀ j, curF d' j = if j = n then b else curF d j) := by
  refine ⟨{ d with ops := d.ops + 1, pend := setP d.pend n (d.pend n ++ [b]) }, ?_, ⟨h.1, h.2.1, fun j hj => ?_⟩, rfl, fun j => ?_⟩
  · unfold writeF
    rw [if_pos hb, opF_calm h hn]; rfl
  · by_cases e : j = n
    · subst e; exact hn
    · simp only [setP, if_neg e] at hj
      exact h.2.2 j hj
  · unfold curF
    by_cases e : j = n
    · subst e; simp [setP]
    · simp [setP, e]
theorem flush_calm {d : Dv} (h : Calm d) (hs : 0 < d.safe.length) :
    ∃ d', flushF d = (0, d') ∧ Calm d' ∧ d'.safe.length = d.safe.length ∧ (∀ j : Int, 0 ≤ j → j < d.safe.length → curF d' j = curF d j) := by
  refine ⟨{ d with ops := d.ops + 1, safe := (List.range d.safe.length).map fun (j : Nat) => curF d (j : Int), pend := fun _ => [] }, ?_, ⟨h.1, h.2.1, fun j hj => absurd rfl hj⟩, by simp, fun j hj hl => ?_⟩
  · unfold flushF
    rw [opF_calm h ⟨by omega, by omega⟩]; rfl
  · obtain ⟨k, rfl⟩ : ∃ k : Nat, j = k := ⟨j.toNat, by omega⟩
    have hk : k < d.safe.length := by omega
    show (([] : List Bk).getLast?).getD _ = _
    simp [hk]
theorem lay_calm {d : Dv} (h : Calm d) {n : Int} (hn : 0 ≤ n ∧ n < d.safe.length) (c : Nat) {data : List UInt8} (hd : data.length ≤ 400) :
    ∃ d', layF d n c data = (0, d') ∧ Calm d' ∧ d'.safe.length = d.safe.length ∧ (∀ j : Int, 0 ≤ j → j < d.safe.length → curF d' j = if j = n then recB c data else curF d j) := by
  obtain ⟨d1, e1, c1, l1, v1⟩ := write_calm h hn (recB_len c data hd).2.1
  obtain ⟨d2, e2, c2, l2, v2⟩ := flush_calm c1 (by rw [l1]; omega)
  refine ⟨d2, ?_, c2, l2.trans l1, fun j hj hl => ?_⟩
  · unfold layF
    rw [e1, if_neg (by simp)]
    exact e2
  · rw [v2 j hj (by rw [l1]; exact hl), v1]
theorem format_calm {d : Dv} (h : Calm d) {n : Int} (hn : 0 ≤ n ∧ n < (d.safe.length : Int) - 1) {data : List UInt8} (hd : data.length ≤ 400) :
    ∃ d', formatF d n data = (0, d') ∧ Calm d' ∧ d'.safe.length = d.safe.length ∧ (∀ j : Int, 0 ≤ j → j < d.safe.length → curF d' j = if j = n then recB 0 data else if j = n + 1 then zb else curF d j) := by
  obtain ⟨d1, e1, c1, l1, v1⟩ := write_calm h (n := n + 1) ⟨by omega, by omega⟩ zb_len
  obtain ⟨d2, e2, c2, l2, v2⟩ := flush_calm c1 (by rw [l1]; omega)
  obtain ⟨d3, e3, c3, l3, v3⟩ := lay_calm c2 (n := n) (by rw [l2, l1]; omega) 0 hd
  refine ⟨d3, ?_, c3, (l3.trans l2).trans l1, fun j hj hl => ?_⟩
  · unfold formatF
    rw [if_neg (by unfold wrongF; rw [if_neg (by omega)]; simp), if_neg (by omega), e1, if_neg (by simp), e2, if_neg (by simp)]
    exact e3
  · rw [v3 j hj (by rw [l2, l1]; exact hl), v2 j hj (by rw [l1]; exact hl), v1]

theorem slF_rec (c : Nat) (hc : c ≤ 1000000000) {data : List UInt8} (hd : data.length ≤ 400) : slF (recB c data) = ⟨true, c, data⟩ := by
  have h3 := (recB_len c data hd).2.2
  have hf := frameF_putF 115 (putU c ++ data) (List.replicate (512 - (putF 115 (putU c ++ data)).length) 0) (by omega)
  have hu := uintF_putU c (by omega) data
  unfold slF
  rw [show recB c data = putF 115 (putU c ++ data) ++ List.replicate (512 - (putF 115 (putU c ++ data)).length) 0 by rw [recB], hf]
  dsimp only
  rw [hu, if_neg (by simp)]
  dsimp only
  rw [List.drop_left]
  congr 1
  unfold wrap64
  omega
theorem slF_zb : slF zb = sl0 := by
  have h : (frameF zb).kind = 0 := by
    unfold frameF
    repeat' split
    all_goals first | rfl | (show zb.getD 4 0 = 0; unfold zb; rw [List.getD_eq_getElem?_getD, List.getElem?_replicate]; rfl)
  unfold slF
  rw [if_pos (.inr (by rw [h]; decide))]

theorem both_calm {d : Dv} (h : Calm d) {n : Int} (hn : 0 ≤ n ∧ n < (d.safe.length : Int) - 1) :
    ∃ d', bothF d n = ⟨slF (curF d n), slF (curF d (n + 1)), newF (slF (curF d n)) (slF (curF d (n + 1))), 0, d'⟩ ∧ Calm d' ∧ d'.safe.length = d.safe.length ∧ ∀ j, curF d' j = curF d j := by
  have e1 := opF_calm h (n := n) ⟨by omega, by omega⟩
  have e2 := opF_calm (calm_ops h (d.ops + 1)) (n := n + 1) ⟨by omega, by show n + 1 < (d.safe.length : Int); omega⟩
  refine ⟨_, ?_, calm_ops h (d.ops + 1 + 1), rfl, fun j => rfl⟩
  unfold bothF
  rw [e1]
  dsimp only
  rw [e2, if_neg (by simp), if_neg (by simp)]
  rfl
theorem load_calm {d : Dv} (h : Calm d) {n : Int} (hn : 0 ≤ n ∧ n < (d.safe.length : Int) - 1) :
    ∃ d', Calm d' ∧ d'.safe.length = d.safe.length ∧ (∀ j, curF d' j = curF d j) ∧ loadF d n = (if newF (slF (curF d n)) (slF (curF d (n + 1))) < 0 then ⟨[], 0, 30, d'⟩ else if newF (slF (curF d n)) (slF (curF d (n + 1))) = 0 then ⟨(slF (curF d n)).data, (slF (curF d n)).count, 0, d'⟩ else ⟨(slF (curF d (n + 1))).data, (slF (curF d (n + 1))).count, 0, d'⟩) := by
  obtain ⟨d', e, c, l, v⟩ := both_calm h hn
  refine ⟨d', c, l, v, ?_⟩
  unfold loadF
  rw [if_neg (by unfold wrongF; rw [if_neg (by omega)]; simp), e, if_neg (by simp)]
theorem store_calm {d : Dv} (h : Calm d) {n : Int} (hn : 0 ≤ n ∧ n < (d.safe.length : Int) - 1) {data : List UInt8} (hd : data.length ≤ 400) :
    ∃ d', Calm d' ∧ d'.safe.length = d.safe.length ∧ (∀ j, curF d' j = curF d j) ∧ storeF d n data = (if newF (slF (curF d n)) (slF (curF d (n + 1))) < 0 then (30, d') else layF d' (n + 1 - newF (slF (curF d n)) (slF (curF d (n + 1)))) ((if newF (slF (curF d n)) (slF (curF d (n + 1))) = 0 then (slF (curF d n)).count else (slF (curF d (n + 1))).count) + 1).toNat data) := by
  obtain ⟨d', e, c, l, v⟩ := both_calm h hn
  refine ⟨d', c, l, v, ?_⟩
  unfold storeF newC
  rw [if_neg (by unfold wrongF; rw [if_neg (by omega)]; simp), if_neg (by omega), e, if_neg (by simp)]
theorem calm_new (n : Nat) : Calm (dv0 n) := ⟨rfl, rfl, fun j hj => absurd rfl hj⟩
theorem cur_new {n : Nat} {j : Int} (h0 : 0 ≤ j) (h1 : j < n) : curF (dv0 n) j = zb := by
  obtain ⟨k, rfl⟩ : ∃ k : Nat, j = k := ⟨j.toNat, by omega⟩
  have hk : k < n := by omega
  show (([] : List Bk).getLast?).getD ((List.replicate n zb).getD (k : Int).toNat zb) = _
  simp [hk, List.getD_eq_getElem?_getD]
end Go.Proofs.Ytgbiffpnfpdcoaa

/- super: awake, walked. -/
namespace Go.Proofs.Ytgbiffpnfpdcoaa
open Go.RowKit Go.Maps
set_option linter.unusedVariables false
set_option linter.unusedSimpArgs false

theorem newF_00 : newF sl0 sl0 = -1 := rfl
theorem newF_10 (c : Int) (d : List UInt8) : newF ⟨true, c, d⟩ sl0 = 0 := rfl
theorem newF_11 {c c' : Int} (d d' : List UInt8) (h : c < c') : newF ⟨true, c, d⟩ ⟨true, c', d'⟩ = 1 := by simp [newF, h]
theorem awake_pure : ∃ d1 d2 d3 d4, loadF (dv0 64) 4 = ⟨[], 0, 30, d1⟩ ∧ formatF d1 4 [97] = (0, d2) ∧ (0 ≤ newC (bothF d2 4) ∧ newC (bothF d2 4) ≤ 999999999) ∧ storeF d2 4 [98] = (0, d3) ∧ loadF d3 4 = ⟨[98], 1, 0, d4⟩ := by
  have hl0 : (dv0 64).safe.length = 64 := List.length_replicate
  obtain ⟨d1, c1, l1, v1, e1⟩ := load_calm (calm_new 64) (n := 4) (by rw [hl0]; omega)
  rw [cur_new (n := 64) (j := 4) (by omega) (by omega), cur_new (n := 64) (j := 4 + 1) (by omega) (by omega), slF_zb, newF_00, if_pos (by omega)] at e1
  rw [hl0] at l1
  obtain ⟨d2, e2, c2, l2, v2⟩ := format_calm c1 (n := 4) (by rw [l1]; omega) (data := [97]) (by simp)
  rw [l1] at l2 v2
  have k4 : curF d2 4 = recB 0 [97] := by rw [v2 4 (by omega) (by omega)]; rfl
  have k5 : curF d2 (4 + 1) = zb := by rw [v2 (4 + 1) (by omega) (by omega)]; rfl
  obtain ⟨b2, f2, -, -, -⟩ := both_calm c2 (n := 4) (by rw [l2]; omega)
  obtain ⟨d3', c3', l3', v3', e3⟩ := store_calm c2 (n := 4) (by rw [l2]; omega) (data := [98]) (by simp)
  rw [k4, k5, slF_rec 0 (by omega) (by simp), slF_zb, newF_10] at f2 e3
  rw [if_neg (by omega), if_pos rfl] at e3
  rw [l2] at l3'
  obtain ⟨d3, e3', c3, l3, v3⟩ := lay_calm c3' (n := 5) (by rw [l3']; omega) 1 (data := [98]) (by simp)
  rw [l3'] at l3 v3
  obtain ⟨d4, c4, l4, v4, e4⟩ := load_calm c3 (n := 4) (by rw [l3]; omega)
  have m4 : curF d3 4 = recB 0 [97] := by rw [v3 4 (by omega) (by omega), if_neg (by omega), v3', k4]
  have m5 : curF d3 (4 + 1) = recB 1 [98] := by rw [v3 (4 + 1) (by omega) (by omega)]; rfl
  rw [m4, m5, slF_rec 0 (by omega) (by simp), slF_rec 1 (by omega) (by simp), newF_11 _ _ (by decide), if_neg (by omega), if_neg (by omega)] at e4
  refine ⟨d1, d2, d3, d4, e1, e2, by rw [f2]; exact ⟨by show (0 : Int) ≤ 0; omega, by show (0 : Int) ≤ 999999999; omega⟩, ?_, e4⟩
  rw [e3]
  exact e3'

/-- a device of this call's own -/
structure Mine (w W : World) (g : Nat) (ρ : Nat → Option DRol) (N : Nat) (d : Dv) : Prop where
  dv : DvAt W g ρ N d
  nw : ∀ k, ρ k ≠ none → w.heap.size ≤ k
  ex : Ext w W
section
variable {w W W' : World} {g : Nat} {ρ : Nat → Option DRol} {N N' : Nat} {d : Dv}
theorem Mine.ext (h : Mine w W g ρ N d) (hx : Ext W W') : Mine w W' g ρ N d := ⟨h.dv.ext hx, h.nw, h.ex.trans hx⟩
theorem Mine.gnw (h : Mine w W g ρ N d) : w.heap.size ≤ g := by
  obtain ⟨⟨_, _, _, h1⟩, h2, _⟩ := h
  exact h2 g (by rw [h1.rg]; simp)
theorem Mine.lo {X : Lo} {v : Value} (h : Mine w W g ρ N d) (hd : DvAt W' g ρ N' X.dev) (hk : Keep (fun k => k ≠ g) W W') : Mine w W' g ρ N' X.dev := by
  refine ⟨hd, h.nw, Keep.ext ?_⟩
  have h1 : Keep (fun k => k < w.heap.size) w W := h.ex.keep _
  exact (h1.trans (hk.mono fun k hk _ e => by have := h.gnw; omega)).mono fun k _ hl => hl
theorem Mine.wr {ρ' : Nat → Option DRol} {d' : Dv} (h : Mine w W g ρ N d) (hd : DvAt W' g ρ' N' d') (hk : Keep (fun k => ρ k = none) W W') (hr : ∀ k, ρ' k ≠ none → ρ k ≠ none ∨ W.heap.size ≤ k) : Mine w W' g ρ' N' d' := by
  refine ⟨hd, fun k hk => ?_, Keep.ext ?_⟩
  · rcases hr k hk with h1 | h1
    · exact h.nw k h1
    · exact Nat.le_trans h.ex.size h1
  · have h1 : Keep (fun k => k < w.heap.size) w W := h.ex.keep _
    exact (h1.trans (hk.mono fun k hk _ => by
      by_cases e : ρ k = none
      · exact e
      · have := h.nw k e; omega)).mono fun k _ hl => hl
end
theorem New64 (w : World) : Calls Try.prog 21 #[.int .i64 64] w fun e w' => ∃ g, e = .returned (.tuple #[.pointer (some ⟨g, 0, none⟩), .int .i64 0]) ∧ ∃ ρ, Mine w w' g ρ 0 (dv0 64) := by
  have h := BNew_ok w 64 (by omega) (by omega)
  rw [show ((64 : Nat) : Int) = 64 from rfl] at h
  refine h.mono ?_
  rintro e w' ⟨g, rfl, ⟨ρ, h1, h2⟩, h3⟩
  exact ⟨g, rfl, ρ, h1, h2, h3⟩

theorem kc_any (w : World) (g : Nat) (C : Array Value) (n c : Nat) (hg : w.heap.size = g) : (convert 22 22 (.slice (some ⟨g, 0, none⟩) n c)).run Try.prog (w.alloc (.cells C 5)) = .ok (.slice (some ⟨g, 0, none⟩) n c) (w.alloc (.cells C 5 (C.size, C.size + 1))) := by
  subst hg
  exact Lib.run_convert_bytes_const (P := Try.prog) w 22 5 C n c Try.underlying22 Try.underlying5
theorem kc1 (W : World) (b : Nat) : (convert 22 22 (.slice (some ⟨W.heap.size, 0, none⟩) 1 1)).run Try.prog (W.alloc (.cells #[.int .u8 b] 5)) = .ok (.slice (some ⟨W.heap.size, 0, none⟩) 1 1) (W.alloc (.cells #[.int .u8 b] 5 (1, 2))) := kc_any W W.heap.size _ 1 1 rfl
theorem one_row (W : World) (b : UInt8) (c : Int) (h : (b.toNat : Int) = c) : RdB (W.alloc (.cells #[.int .u8 c] 5 (1, 2))) (.slice (some ⟨W.heap.size, 0, none⟩) 1 1) [b] := by
  subst h
  exact rdB_row (b := [b]) (heap_alloc_new _ _) 1 rfl (by omega)
set_option maxRecDepth 100000 in
set_option maxHeartbeats 2000000 in
theorem sawake_any (w : World) : Calls Try.prog 20 #[] w fun e w' => e = .returned (.bool true) ∧ Ext w w' := by
  obtain ⟨d1, d2, d3, d4, e1, e2, e3, e4, e5⟩ := awake_pure
  have E1 := hid e1
  have E2 := hid e2
  have E3 := hid e3
  have E4 := hid e4
  have E5 := hid e5
  clear e1 e2 e3 e4 e5
  go_enter Try.func20, Try.ntmps20
  go_wp2_with fail
  refine (New64 w).mono ?_
  rintro e w1 ⟨g, rfl, ρ, hm⟩
  have HM := hid hm
  clear hm
  go_wp2_with fail
  refine (Load_any w1 g ρ 0 (dv0 64) HM.out.dv (by omega) 4 (by omega)).mono ?_
  rintro e w2 ⟨v1, rfl, hr1, hb1, hd1, hk1⟩
  have hm := HM.out.lo (v := v1) hd1 hk1
  rw [E1.out] at hm hr1 ⊢
  dsimp only at hm hr1 ⊢
  have HM := hid hm
  clear hm hd1 hk1 hb1 hr1
  have hkc := kc1 w2 97
  rw [show ((97 : Nat) : Int) = 97 from rfl] at hkc
  go_wp2_with fail
  have hxa : Ext w2 (w2.alloc (.cells #[.int .u8 97] 5 (1, 2))) := by (· repeat (first | (with_reducible assumption) | exact Ext.refl _ | refine Ext.alloc ?_ _ | refine Ext.drew ?_ | refine Ext.drewN ?_ _ | (apply Ext.snart; (with_reducible assumption))))
  refine (Format_any _ g ρ _ d1 (HM.out.ext hxa).dv (by omega) 4 (by omega) _ [97] (one_row w2 97 97 rfl) (fun _ k hk => ?_)).mono ?_
  · simp only [Value.ownBlock, Option.some.injEq] at hk
    by_cases e : ρ k = none
    · exact e
    · have := HM.out.dv.rlt k e; omega
  rintro e w3 ⟨rfl, ρ3, hd3, hk3, hr3⟩
  have hm := (HM.out.ext hxa).wr hd3 hk3 hr3
  rw [E2.out] at hm ⊢
  dsimp only at hm ⊢
  have HM3 := hid hm
  clear hm hd3 hk3 hr3 hkc hxa
  have hkc := kc1 w3 98
  rw [show ((98 : Nat) : Int) = 98 from rfl] at hkc
  go_wp2_with fail
  have hxb : Ext w3 (w3.alloc (.cells #[.int .u8 98] 5 (1, 2))) := by (· repeat (first | (with_reducible assumption) | exact Ext.refl _ | refine Ext.alloc ?_ _ | refine Ext.drew ?_ | refine Ext.drewN ?_ _ | (apply Ext.snart; (with_reducible assumption))))
  refine (Store_any _ g ρ3 _ d2 (HM3.out.ext hxb).dv (by omega) 4 (by omega) _ [98] (one_row w3 98 98 rfl) (fun _ k hk => ?_) (fun _ => E3.out)).mono ?_
  · simp only [Value.ownBlock, Option.some.injEq] at hk
    by_cases e : ρ3 k = none
    · exact e
    · have := HM3.out.dv.rlt k e; omega
  rintro e w4 ⟨rfl, ρ4, hd4, hk4, hr4⟩
  have hm := (HM3.out.ext hxb).wr hd4 hk4 hr4
  rw [E4.out] at hm ⊢
  dsimp only at hm ⊢
  have HM4 := hid hm
  clear hm hd4 hk4 hr4 hkc hxb
  go_wp2_with fail
  refine (Load_any w4 g ρ4 _ d3 HM4.out.dv (by omega) 4 (by omega)).mono ?_
  rintro e w5 ⟨v5, rfl, hr5, hb5, hd5, hk5⟩
  have hm := HM4.out.lo (v := v5) hd5 hk5
  rw [E5.out] at hm hr5 ⊢
  dsimp only at hm hr5 ⊢
  have HM5 := hid hm
  have hst := run_strB hr5
  clear hm hd5 hk5 hb5
  go_wp2_with fail
  go_ret
  exact ⟨rfl, HM5.out.ex⟩
end Go.Proofs.Ytgbiffpnfpdcoaa
