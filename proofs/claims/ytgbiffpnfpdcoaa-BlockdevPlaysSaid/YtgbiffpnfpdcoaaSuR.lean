/- super: a record, and what the calls do to it on a calm device of this call's own. -/
import Derived.Test.YtgbiffpnfpdcoaaSuP
namespace Go.Proofs.Ytgbiffpnfpdcoaa
open Go.RowKit Go.Maps
set_option linter.unusedVariables false
set_option linter.unusedSimpArgs false

/-- the blocks n and n + 1 hold a record: x, of count c -/
def Rec (d : Dv) (n : Int) (c : Nat) (x : List UInt8) : Prop :=
  (slF (curF d n) = ⟨true, c, x⟩ ∧ ((slF (curF d (n + 1))).ok = true → (slF (curF d (n + 1))).count < c)) ∨ (slF (curF d (n + 1)) = ⟨true, c, x⟩ ∧ ((slF (curF d n)).ok = true → (slF (curF d n)).count < c))
theorem Rec.cur {d d' : Dv} {n : Int} {c : Nat} {x : List UInt8} (h : Rec d n c x) (h0 : curF d' n = curF d n) (h1 : curF d' (n + 1) = curF d (n + 1)) : Rec d' n c x := by
  unfold Rec; rw [h0, h1]; exact h
theorem Rec.new {d : Dv} {n : Int} {c : Nat} {x : List UInt8} (h : Rec d n c x) :
    (newF (slF (curF d n)) (slF (curF d (n + 1))) = 0 ∧ slF (curF d n) = ⟨true, c, x⟩) ∨ (newF (slF (curF d n)) (slF (curF d (n + 1))) = 1 ∧ slF (curF d (n + 1)) = ⟨true, c, x⟩) := by
  rcases h with ⟨h1, h2⟩ | ⟨h1, h2⟩
  · left
    refine ⟨?_, h1⟩
    rw [h1]
    unfold newF
    rw [if_pos rfl, if_neg]
    intro h3
    rw [Bool.and_eq_true, decide_eq_true_eq] at h3
    have := h2 h3.1
    have := h3.2
    simp only at this
    omega
  · right
    refine ⟨?_, h1⟩
    rw [h1]
    unfold newF
    by_cases h3 : (slF (curF d n)).ok = true
    · have := h2 h3
      rw [if_pos h3, if_pos (by simp [this])]
    · rw [if_neg h3, if_pos rfl]
theorem load_rec {d : Dv} (hc : Calm d) {n : Int} (hn : 0 ≤ n ∧ n < (d.safe.length : Int) - 1) {c : Nat} {x : List UInt8} (h : Rec d n c x) :
    ∃ d', loadF d n = ⟨x, c, 0, d'⟩ ∧ Calm d' ∧ d'.safe.length = d.safe.length ∧ (∀ j, curF d' j = curF d j) ∧ d'.pend = d.pend := by
  have e1 := opF_calm hc (n := n) ⟨by omega, by omega⟩
  have e2 := opF_calm (calm_ops hc (d.ops + 1)) (n := n + 1) ⟨by omega, by show n + 1 < (d.safe.length : Int); omega⟩
  obtain ⟨d', c', l, v, e⟩ := load_calm hc hn
  have hp : (loadF d n).dev.pend = d.pend := by
    unfold loadF
    rw [if_neg (by unfold wrongF; rw [if_neg (by omega)]; simp)]
    have hb : (bothF d n).dev.pend = d.pend := by
      unfold bothF
      rw [e1]
      dsimp only
      rw [e2, if_neg (by simp), if_neg (by simp)]
    repeat' split
    all_goals exact hb
  rcases h.new with ⟨h1, h2⟩ | ⟨h1, h2⟩
  · rw [h1, h2, if_neg (by omega), if_pos rfl] at e
    rw [e] at hp
    exact ⟨d', e, c', l, v, hp⟩
  · rw [h1, h2, if_neg (by omega), if_neg (by omega)] at e
    rw [e] at hp
    exact ⟨d', e, c', l, v, hp⟩
/-- quiet, of 64 blocks: no fuse, not down, nothing pending -/
structure Qt (d : Dv) : Prop where
  calm : Calm d
  len : d.safe.length = 64
  no : ∀ n, d.pend n = []
theorem Qt.new : Qt (dv0 64) := ⟨calm_new 64, List.length_replicate, fun _ => rfl⟩
theorem flush_no {d : Dv} (h : Calm d) (hs : 0 < d.safe.length) (n : Int) : (flushF d).2.pend n = [] := by
  unfold flushF
  rw [opF_calm h ⟨by omega, by omega⟩]
  rfl
theorem lay_no {d : Dv} (h : Calm d) {n : Int} (hn : 0 ≤ n ∧ n < d.safe.length) (c : Nat) {data : List UInt8} (hd : data.length ≤ 400) (j : Int) : (layF d n c data).2.pend j = [] := by
  obtain ⟨d1, e1, c1, l1, v1⟩ := write_calm h hn (recB_len c data hd).2.1
  unfold layF
  rw [e1, if_neg (by simp)]
  exact flush_no c1 (by rw [l1]; omega) j
theorem format_rec {d : Dv} (h : Calm d) (hl : d.safe.length = 64) {n : Int} (hn : 0 ≤ n ∧ n ≤ 62) {data : List UInt8} (hd : data.length ≤ 400) :
    ∃ d', formatF d n data = (0, d') ∧ Qt d' ∧ Rec d' n 0 data ∧ (∀ j : Int, 0 ≤ j → j < 64 → j ≠ n → j ≠ n + 1 → curF d' j = curF d j) := by
  obtain ⟨d', e, c, l, v⟩ := format_calm h (n := n) (by rw [hl]; omega) hd
  rw [hl] at l v
  have hno : ∀ j, (formatF d n data).2.pend j = [] := fun j => by
    obtain ⟨d1, e1, c1, l1, v1⟩ := write_calm h (n := n + 1) ⟨by omega, by omega⟩ zb_len
    obtain ⟨d2, e2, c2, l2, v2⟩ := flush_calm c1 (by rw [l1]; omega)
    unfold formatF
    rw [if_neg (by unfold wrongF; rw [if_neg (by omega)]; simp), if_neg (by omega), e1, if_neg (by simp), e2, if_neg (by simp)]
    exact lay_no c2 (by rw [l2, l1]; omega) 0 hd j
  rw [e] at hno
  refine ⟨d', e, ⟨c, l, hno⟩, .inl ⟨?_, ?_⟩, fun j h0 h1 h2 h3 => ?_⟩
  · rw [v n (by omega) (by omega), if_pos rfl]
    exact slF_rec 0 (by omega) hd
  · rw [v (n + 1) (by omega) (by omega), if_neg (by omega), if_pos rfl, slF_zb]
    intro hh; cases hh
  · rw [v j (by omega) (by omega), if_neg h2, if_neg h3]
theorem store_rec {d : Dv} (h : Calm d) (hl : d.safe.length = 64) {n : Int} (hn : 0 ≤ n ∧ n ≤ 62) {c : Nat} (hc : c ≤ 999999999) {x : List UInt8} (hr : Rec d n c x) {data : List UInt8} (hd : data.length ≤ 400) :
    (0 ≤ newC (bothF d n) ∧ newC (bothF d n) ≤ 999999999) ∧ ∃ d', storeF d n data = (0, d') ∧ Qt d' ∧ Rec d' n (c + 1) data ∧ (∀ j : Int, 0 ≤ j → j < 64 → j ≠ n → j ≠ n + 1 → curF d' j = curF d j) := by
  obtain ⟨d0, e0, -, -, -⟩ := both_calm h (n := n) (by rw [hl]; omega)
  obtain ⟨d1, c1, l1, v1, e1⟩ := store_calm h (n := n) (by rw [hl]; omega) hd
  rcases hr.new with ⟨h1, h2⟩ | ⟨h1, h2⟩
  · rw [h1] at e0 e1
    rw [if_neg (by omega), if_pos rfl, h2] at e1
    rw [h2] at e0
    rw [show (((⟨true, c, x⟩ : Sl).count) + 1).toNat = c + 1 by show ((c : Int) + 1).toNat = c + 1; omega, show n + 1 - 0 = n + 1 by omega] at e1
    obtain ⟨d', e, c', l, v⟩ := lay_calm c1 (n := n + 1) (by rw [l1, hl]; omega) (c + 1) hd
    have hno := lay_no c1 (n := n + 1) (by rw [l1, hl]; omega) (c + 1) hd
    rw [e] at hno
    rw [l1, hl] at l v
    refine ⟨by rw [e0]; show (0 : Int) ≤ c ∧ (c : Int) ≤ 999999999; omega, d', e1.trans e, ⟨c', l, hno⟩, .inr ⟨?_, ?_⟩, fun j j0 j1 j2 j3 => ?_⟩
    · rw [v (n + 1) (by omega) (by omega), if_pos rfl]
      have := slF_rec (c + 1) (by omega) hd
      rw [this]
    · rw [v n (by omega) (by omega), if_neg (by omega), v1, h2]
      intro _; show (c : Int) < ((c + 1 : Nat) : Int); omega
    · rw [v j j0 (by omega), if_neg j3, v1]
  · rw [h1] at e0 e1
    rw [if_neg (by omega), if_neg (by omega), h2] at e1
    rw [h2] at e0
    rw [show (((⟨true, c, x⟩ : Sl).count) + 1).toNat = c + 1 by show ((c : Int) + 1).toNat = c + 1; omega, show n + 1 - 1 = n by omega] at e1
    obtain ⟨d', e, c', l, v⟩ := lay_calm c1 (n := n) (by rw [l1, hl]; omega) (c + 1) hd
    have hno := lay_no c1 (n := n) (by rw [l1, hl]; omega) (c + 1) hd
    rw [e] at hno
    rw [l1, hl] at l v
    refine ⟨by rw [e0]; show (0 : Int) ≤ c ∧ (c : Int) ≤ 999999999; omega, d', e1.trans e, ⟨c', l, hno⟩, .inl ⟨?_, ?_⟩, fun j j0 j1 j2 j3 => ?_⟩
    · rw [v n (by omega) (by omega), if_pos rfl]
      have := slF_rec (c + 1) (by omega) hd
      rw [this]
    · rw [v (n + 1) (by omega) (by omega), if_neg (by omega), v1, h2]
      intro _; show (c : Int) < ((c + 1 : Nat) : Int); omega
    · rw [v j j0 (by omega), if_neg j2, v1]

section
variable {w W : World} {g : Nat} {ρ : Nat → Option DRol} {N : Nat} {d : Dv}
/-- an argument of the law's -/
theorem Mine.arg (hm : Mine w W g ρ N d) {v : Value} {data : List UInt8} (hv : RdB w v data) : RdB W v data ∧ (0 < data.length → ∀ k, v.ownBlock = some k → ρ k = none) := by
  refine ⟨hv.ext hm.ex, fun h0 k hk => ?_⟩
  by_cases e : ρ k = none
  · exact e
  · have h1 := hm.nw k e
    have h2 := Rd.block_lt hv h0 k hk
    omega
/-- something laid behind the device -/
theorem Mine.late (hm : Mine w W g ρ N d) {W' : World} (hx : Ext W W') {k : Nat} (hk : W.heap.size ≤ k) : ρ k = none := by
  by_cases e : ρ k = none
  · exact e
  · have := hm.dv.rlt k e; omega
theorem Mine.glt (hm : Mine w W g ρ N d) : g < W.heap.size := by
  obtain ⟨⟨_, _, _, h⟩, _, _⟩ := hm
  exact h.glt
/-- something handed back behind the device, past a call that turns the device's head alone -/
theorem Mine.past (hm : Mine w W g ρ N d) {W1 W2 : World} (hk : Keep (fun k => k ≠ g) W1 W2) {v : Value} {x : List UInt8} (hv : RdB W1 v x) (hb : ∀ k, v.ownBlock = some k → W.heap.size ≤ k) : RdB W2 v x :=
  Rd.carry0 hv hk.size fun _ k hkk hl => hk.block k (fun e => absurd (hb k hkk) (by have h2 := hm.glt; omega)) hl
theorem MFormat (hm : Mine w W g ρ N d) (hN : N ≤ 999999000) (hc : Calm d) (hl : d.safe.length = 64) (n : Int) (hn : 0 ≤ n ∧ n ≤ 62) (v : Value) (data : List UInt8) (hv : RdB W v data ∧ (0 < data.length → ∀ k, v.ownBlock = some k → ρ k = none)) (hd : data.length ≤ 400) :
    Calls Try.prog 23 #[.pointer (some ⟨g, 0, none⟩), .int .i64 n, v] W fun e W' => e = .returned (.int .i64 0) ∧ ∃ ρ' d', Mine w W' g ρ' (N + 6) d' ∧ Qt d' ∧ Rec d' n 0 data ∧ (∀ j : Int, 0 ≤ j → j < 64 → j ≠ n → j ≠ n + 1 → curF d' j = curF d j) := by
  obtain ⟨d', e1, e2, e3, e4⟩ := format_rec hc hl hn hd
  refine (Format_any W g ρ N d hm.dv (by omega) n (by omega) v data hv.1 hv.2).mono ?_
  rintro e W' ⟨rfl, ρ', h1, h2, h3⟩
  have h4 := hm.wr h1 h2 h3
  rw [e1] at h4 ⊢
  exact ⟨rfl, ρ', d', h4, e2, e3, e4⟩
theorem MStore (hm : Mine w W g ρ N d) (hN : N ≤ 999999000) (hc : Calm d) (hl : d.safe.length = 64) (n : Int) (hn : 0 ≤ n ∧ n ≤ 62) (c : Nat) (hcc : c ≤ 999999999) (x : List UInt8) (hr : Rec d n c x) (v : Value) (data : List UInt8) (hv : RdB W v data ∧ (0 < data.length → ∀ k, v.ownBlock = some k → ρ k = none)) (hd : data.length ≤ 400) :
    Calls Try.prog 24 #[.pointer (some ⟨g, 0, none⟩), .int .i64 n, v] W fun e W' => e = .returned (.int .i64 0) ∧ ∃ ρ' d', Mine w W' g ρ' (N + 5) d' ∧ Qt d' ∧ Rec d' n (c + 1) data ∧ (∀ j : Int, 0 ≤ j → j < 64 → j ≠ n → j ≠ n + 1 → curF d' j = curF d j) := by
  obtain ⟨e0, d', e1, e2, e3, e4⟩ := store_rec hc hl hn hcc hr hd
  refine (Store_any W g ρ N d hm.dv (by omega) n (by omega) v data hv.1 hv.2 (fun _ => e0)).mono ?_
  rintro e W' ⟨rfl, ρ', h1, h2, h3⟩
  have h4 := hm.wr h1 h2 h3
  rw [e1] at h4 ⊢
  exact ⟨rfl, ρ', d', h4, e2, e3, e4⟩
theorem MLoad (hm : Mine w W g ρ N d) (hN : N ≤ 999999000) (hc : Calm d) (hl : d.safe.length = 64) (n : Int) (hn : 0 ≤ n ∧ n ≤ 62) (c : Nat) (x : List UInt8) (hr : Rec d n c x) :
    Calls Try.prog 22 #[.pointer (some ⟨g, 0, none⟩), .int .i64 n] W fun e W' => ∃ v, e = .returned (.tuple #[v, .int .i64 c, .int .i64 0]) ∧ RdB W' v x ∧ (∀ k, v.ownBlock = some k → W.heap.size ≤ k) ∧ Keep (fun k => k ≠ g) W W' ∧ ∃ d', Mine w W' g ρ (N + 2) d' ∧ Calm d' ∧ d'.safe.length = 64 ∧ (∀ j, curF d' j = curF d j) ∧ d'.pend = d.pend := by
  obtain ⟨d', e1, e2, e3, e4, e5⟩ := load_rec hc (n := n) (by rw [hl]; omega) hr
  refine (Load_any W g ρ N d hm.dv (by omega) n (by omega)).mono ?_
  rintro e W' ⟨v, rfl, h1, h2, h3, h4⟩
  have h5 := hm.lo (v := v) h3 h4
  rw [e1] at h5 h1 ⊢
  exact ⟨v, rfl, h1, h2, h4, d', h5, e2, e3.trans hl, e4, e5⟩
end

set_option maxRecDepth 100000 in
set_option maxHeartbeats 2000000 in
theorem superTwo_any (w : World) (v1 : Value) (a : List UInt8) (ha : RdB w v1 a) (v2 : Value) (b : List UInt8) (hb : RdB w v2 b) :
    Calls Try.prog 4 #[v1, v2] w fun e w' => e = .returned (.bool true) ∧ Ext w w' := by
  obtain ⟨va, vc, rfl⟩ := ha.slice'
  obtain ⟨vb, vd, rfl⟩ := hb.slice'
  have HA := hid ha
  have HB := hid hb
  clear ha hb
  go_enter Try.func4, Try.ntmps4
  go_wp2_with fail
  refine (sawake_any w).mono ?_
  rintro e w0 ⟨rfl, hx0⟩
  have HX0 := hid hx0
  have HA := hid (HA.out.ext hx0)
  have HB := hid (HB.out.ext hx0)
  clear hx0
  go_wp2_with fail
  refine (New64 w0).mono ?_
  rintro e w1 ⟨g, rfl, ρ, hm⟩
  have HM := hid hm
  clear hm
  by_cases h1 : 400 < a.length
  · have h1' : (400 : Int) < (a.length : Int) := by omega
    clear h1
    go_wp2_with fail
    go_ret
    exact ⟨rfl, HX0.out.trans HM.out.ex⟩
  by_cases h2 : 400 < b.length
  · have h1' : ¬ (400 : Int) < (a.length : Int) := by omega
    have h2' : (400 : Int) < (b.length : Int) := by omega
    clear h1 h2
    go_wp2_with fail
    go_ret
    exact ⟨rfl, HX0.out.trans HM.out.ex⟩
  have h1' : ¬ (400 : Int) < (a.length : Int) := by omega
  have h2' : ¬ (400 : Int) < (b.length : Int) := by omega
  have Q0 := hid Qt.new
  go_wp2_with fail
  refine (MFormat HM.out (by omega) Q0.out.calm Q0.out.len 0 (by omega) _ a (HM.out.arg HA.out) (by omega)).mono ?_
  rintro e w2 ⟨rfl, ρ2, d2, hm2, q2, r2, v2⟩
  have HM2 := hid hm2
  have Q2 := hid q2
  clear hm2 q2 v2
  go_wp2_with fail
  refine (MFormat HM2.out (by omega) Q2.out.calm Q2.out.len 2 (by omega) _ b (HM2.out.arg HB.out) (by omega)).mono ?_
  rintro e w3 ⟨rfl, ρ3, d3, hm3, q3, s3, v3⟩
  have R3 := hid (r2.cur (v3 0 (by omega) (by omega) (by omega) (by omega)) (v3 1 (by omega) (by omega) (by omega) (by omega)))
  have HM3 := hid hm3
  have Q3 := hid q3
  have S3 := hid s3
  clear hm3 q3 v3 r2 s3
  go_wp2_with fail
  refine (MStore HM3.out (by omega) Q3.out.calm Q3.out.len 0 (by omega) 0 (by omega) a R3.out _ b (HM3.out.arg HB.out) (by omega)).mono ?_
  rintro e w4 ⟨rfl, ρ4, d4, hm4, q4, r4, v4⟩
  have S4 := hid (S3.out.cur (v4 2 (by omega) (by omega) (by omega) (by omega)) (v4 3 (by omega) (by omega) (by omega) (by omega)))
  have R4 := hid r4
  have HM4 := hid hm4
  have Q4 := hid q4
  clear hm4 q4 v4 r4
  go_wp2_with fail
  refine (MStore HM4.out (by omega) Q4.out.calm Q4.out.len 2 (by omega) 0 (by omega) b S4.out _ a (HM4.out.arg HA.out) (by omega)).mono ?_
  rintro e w5 ⟨rfl, ρ5, d5, hm5, q5, s5, v5⟩
  have R5 := hid (R4.out.cur (v5 0 (by omega) (by omega) (by omega) (by omega)) (v5 1 (by omega) (by omega) (by omega) (by omega)))
  have S5 := hid s5
  have HM5 := hid hm5
  have Q5 := hid q5
  clear hm5 q5 v5 s5
  go_wp2_with fail
  refine (MStore HM5.out (by omega) Q5.out.calm Q5.out.len 2 (by omega) (0 + 1) (by omega) a S5.out _ b (HM5.out.arg HB.out) (by omega)).mono ?_
  rintro e w6 ⟨rfl, ρ6, d6, hm6, q6, s6, v6⟩
  have R6 := hid (R5.out.cur (v6 0 (by omega) (by omega) (by omega) (by omega)) (v6 1 (by omega) (by omega) (by omega) (by omega)))
  have S6 := hid s6
  have HM6 := hid hm6
  have Q6 := hid q6
  clear hm6 q6 v6 s6
  go_wp2_with fail
  refine (MLoad HM6.out (by omega) Q6.out.calm Q6.out.len 0 (by omega) (0 + 1) b R6.out).mono ?_
  rintro e w7 ⟨x7, rfl, hx7, hb7, -, d7, hm7, c7, l7, v7, -⟩
  obtain ⟨xa, xc, rfl⟩ := hx7.slice'
  have S7 := hid (S6.out.cur (v7 2) (v7 3))
  have HX7 := hid hx7
  have HM7 := hid hm7
  have C7 := hid c7
  have L7 := hid l7
  have HB7 := hid hb7
  clear hm7 c7 l7 v7 hx7 hb7
  go_wp2_with fail
  refine (MLoad HM7.out (by omega) C7.out L7.out 2 (by omega) (0 + 1 + 1) b S7.out).mono ?_
  rintro e w8 ⟨x8, rfl, hx8, -, hk8, d8, hm8, -⟩
  obtain ⟨xb, xd, rfl⟩ := hx8.slice'
  have hs7 := run_strB (Mine.past HM6.out hk8 HX7.out HB7.out)
  have hs8 := run_strB hx8
  have hsb := run_strB (hm8.arg HB.out).1
  have HM8 := hid hm8
  clear hm8 hk8 hx8
  go_wp2_with fail
  go_ret
  exact ⟨rfl, HX0.out.trans HM8.out.ex⟩
theorem superTwo_walk (w : World) (v1 : Value) (a : List UInt8) (ha : RdB w v1 a) (_ : a.length ≤ 140737488351232) (v2 : Value) (b : List UInt8) (hb : RdB w v2 b) (_ : b.length ≤ 140737488351232) :
    Calls Try.prog 4 #[v1, v2] w fun e w' => e = .returned (.bool true) ∧ Below w.heap.size w w' :=
  (superTwo_any w v1 a ha v2 b hb).mono fun e w' h => ⟨h.1, h.2.below⟩
end Go.Proofs.Ytgbiffpnfpdcoaa
