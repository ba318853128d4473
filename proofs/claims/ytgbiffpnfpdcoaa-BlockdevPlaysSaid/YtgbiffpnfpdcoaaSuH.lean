/- super: a store on a device that may stop; cartularylaw03.SuperHolds, walked. -/
import Derived.Test.YtgbiffpnfpdcoaaBdK
import Derived.Test.YtgbiffpnfpdcoaaSuCnt
import Derived.Test.YtgbiffpnfpdcoaaPick
namespace Go.Proofs.Ytgbiffpnfpdcoaa
open Go.RowKit Go.Maps
set_option linter.unusedVariables false
set_option linter.unusedSimpArgs false

/-- an image holds a record -/
def RecI (s : Int → Bk) (n : Int) (c : Nat) (x : List UInt8) : Prop :=
  (slF (s n) = ⟨true, c, x⟩ ∧ ((slF (s (n + 1))).ok = true → (slF (s (n + 1))).count < c)) ∨ (slF (s (n + 1)) = ⟨true, c, x⟩ ∧ ((slF (s n)).ok = true → (slF (s n)).count < c))
theorem recI_of {d : Dv} {n : Int} {c : Nat} {x : List UInt8} (h : Rec d n c x) {s : Int → Bk} (h0 : s n = curF d n) (h1 : s (n + 1) = curF d (n + 1)) : RecI s n c x := by
  unfold RecI; rw [h0, h1]; exact h
theorem rec_of {d : Dv} {n : Int} {c : Nat} {x : List UInt8} (h : RecI (curF d) n c x) : Rec d n c x := h
theorem RecI.cur {n : Int} {c : Nat} {x : List UInt8} {s s' : Int → Bk} (h : RecI s n c x) (h0 : s' n = s n) (h1 : s' (n + 1) = s (n + 1)) : RecI s' n c x := by
  unfold RecI; rw [h0, h1]; exact h
/-- where a store goes on the device -/
theorem rec_next {s : Int → Bk} {n : Int} {c : Nat} {x : List UInt8} (h : RecI s n c x) : ∃ i : Int, (i = 0 ∨ i = 1) ∧ newF (slF (s n)) (slF (s (n + 1))) = i ∧ (if i = 0 then slF (s n) else slF (s (n + 1))) = ⟨true, c, x⟩ ∧ (i = 1 → ((slF (s n)).ok = true → (slF (s n)).count < c)) ∧ (i = 0 → ((slF (s (n + 1))).ok = true → (slF (s (n + 1))).count < c)) := by
  rcases h with ⟨h1, h2⟩ | ⟨h1, h2⟩
  · refine ⟨0, .inl rfl, ?_, by rw [if_pos rfl]; exact h1, fun h => absurd h (by decide), fun _ => h2⟩
    rw [h1]
    unfold newF
    rw [if_pos rfl, if_neg]
    intro h3
    rw [Bool.and_eq_true, decide_eq_true_eq] at h3
    have := h2 h3.1
    have := h3.2
    simp only at this
    omega
  · refine ⟨1, .inr rfl, ?_, by rw [if_neg (by decide)]; exact h1, fun _ => h2, fun h => absurd h (by decide)⟩
    rw [h1]
    unfold newF
    by_cases h3 : (slF (s n)).ok = true
    · have := h2 h3
      rw [if_pos h3, if_pos (by simp [this])]
    · rw [if_neg h3, if_pos rfl]
theorem rec_put {s s' : Int → Bk} {n : Int} {c : Nat} (hc : c ≤ 999999999) {x : List UInt8} (h : RecI s n c x) {i : Int} (hi : newF (slF (s n)) (slF (s (n + 1))) = i) {data : List UInt8} (hd : data.length ≤ 400) (h1 : s' (n + 1 - i) = recB (c + 1) data) (h2 : ∀ j, (j = n ∨ j = n + 1) → j ≠ n + 1 - i → s' j = s j) : RecI s' n (c + 1) data := by
  obtain ⟨i', hi', he, hs, ha, hb⟩ := rec_next h
  rw [hi] at he
  subst he
  have hr := slF_rec (c + 1) (by omega) hd
  rcases hi' with rfl | rfl
  · right
    rw [show n + 1 - 0 = n + 1 by omega] at h1
    refine ⟨by rw [h1, hr], ?_⟩
    rw [h2 n (.inl rfl) (by omega)]
    rw [if_pos rfl] at hs
    rw [hs]
    intro _; show (c : Int) < ((c + 1 : Nat) : Int); omega
  · left
    rw [show n + 1 - 1 = n by omega] at h1
    refine ⟨by rw [h1, hr], ?_⟩
    rw [h2 (n + 1) (.inr rfl) (by omega)]
    rw [if_neg (by decide)] at hs
    rw [hs]
    intro _; show (c : Int) < ((c + 1 : Nat) : Int); omega

/-- what both slots say, on a device that may stop -/
theorem both_up {d : Dv} (h : Up d) {n : Int} (hn : 0 ≤ n ∧ n + 1 < d.safe.length) :
    (∃ d', bothF d n = ⟨slF (curF d n), slF (curF d (n + 1)), newF (slF (curF d n)) (slF (curF d (n + 1))), 0, d'⟩ ∧ Same d d' ∧ Up d' ∧ (d.fuse = -1 → d'.fuse = -1)) ∨ (d.fuse ≠ -1 ∧ ∃ d', (bothF d n).err = 2 ∧ (bothF d n).newest = -1 ∧ (bothF d n).s1 = sl0 ∧ (bothF d n).dev = d' ∧ Same d d' ∧ d'.down = true) := by
  rcases op_up h (n := n) ⟨by omega, by omega⟩ with ⟨d1, e1, h1, u1, f1⟩ | ⟨h0, d1, e1, h1, u1⟩
  · rcases op_up u1 (n := n + 1) (by rw [h1.len]; omega) with ⟨d2, e2, h2, u2, f2⟩ | ⟨h0, d2, e2, h2, u2⟩
    · left
      refine ⟨d2, ?_, h1.trans h2, u2, fun e => f2 (f1 e)⟩
      unfold bothF
      rw [e1]
      dsimp only
      rw [e2, if_neg (by simp), if_neg (by simp), h1.cur]
    · right
      refine ⟨fun e => h0 (f1 e), d2, ?_⟩
      unfold bothF
      rw [e1]
      dsimp only
      rw [e2, if_neg (by simp), if_pos (by simp)]
      exact ⟨rfl, rfl, rfl, rfl, h1.trans h2, u2⟩
  · right
    refine ⟨h0, d1, ?_⟩
    unfold bothF
    rw [e1]
    dsimp only
    rw [if_pos (by simp)]
    exact ⟨rfl, rfl, rfl, rfl, h1, u1⟩
theorem load_up {d : Dv} (h : Up d) {n : Int} (hn : 0 ≤ n ∧ n + 1 < d.safe.length) {c : Nat} {x : List UInt8} (hr : Rec d n c x) :
    (∃ d', loadF d n = ⟨x, c, 0, d'⟩ ∧ Same d d' ∧ Up d' ∧ (d.fuse = -1 → d'.fuse = -1)) ∨ (d.fuse ≠ -1 ∧ ∃ d', loadF d n = ⟨[], 0, 2, d'⟩ ∧ Same d d' ∧ d'.down = true) := by
  rcases both_up h hn with ⟨d', e, h1, h2, h3⟩ | ⟨h0, d', e1, e2, e3, e4, h1, h2⟩
  · left
    refine ⟨d', ?_, h1, h2, h3⟩
    unfold loadF
    rw [if_neg (by unfold wrongF; rw [if_neg (by omega)]; simp), e, if_neg (by simp)]
    rcases hr.new with ⟨k1, k2⟩ | ⟨k1, k2⟩
    · dsimp only; rw [k1, k2, if_neg (by omega), if_pos rfl]
    · dsimp only; rw [k1, k2, if_neg (by omega), if_neg (by omega)]
  · right
    refine ⟨h0, d', ?_, h1, h2⟩
    unfold loadF
    rw [if_neg (by unfold wrongF; rw [if_neg (by omega)]; simp), if_pos (by rw [e1]; simp), e1, e4]
theorem store_up {d : Dv} (h : Up d) (hst : Still d) {n : Int} (hn : 0 ≤ n ∧ n + 1 < d.safe.length) {c : Nat} (hc : c ≤ 999999999) {x : List UInt8} (hr : Rec d n c x) {data : List UInt8} (hd : data.length ≤ 400) :
    (0 ≤ newC (bothF d n) ∧ newC (bothF d n) ≤ 999999999) ∧
    ((∃ d', storeF d n data = (0, d') ∧ Up d' ∧ Still d' ∧ d'.safe.length = d.safe.length ∧ Rec d' n (c + 1) data ∧ (∀ j : Int, 0 ≤ j → j < d.safe.length → j ≠ n → j ≠ n + 1 → curF d' j = curF d j) ∧ (d.fuse = -1 → d'.fuse = -1)) ∨
     (d.fuse ≠ -1 ∧ ∃ d', storeF d n data = (2, d') ∧ d'.down = true ∧ d'.safe.length = d.safe.length ∧ ∀ s, Img d' s → (RecI s n c x ∨ RecI s n (c + 1) data) ∧ ∀ j : Int, 0 ≤ j → j < d.safe.length → j ≠ n → j ≠ n + 1 → s j = curF d j)) := by
  have hwr : wrongF d n = 0 := by unfold wrongF; rw [if_neg (by omega)]
  have same_img : ∀ d', Same d d' → ∀ s, Img d' s → (RecI s n c x ∨ RecI s n (c + 1) data) ∧ ∀ j : Int, 0 ≤ j → j < d.safe.length → j ≠ n → j ≠ n + 1 → s j = curF d j := fun d' hs s hi => by
    have hk := img_still hst (hs.img hi)
    exact ⟨.inl (recI_of hr (hk n (by omega) (by omega)) (hk (n + 1) (by omega) (by omega))), fun j j0 j1 _ _ => hk j j0 j1⟩
  rcases both_up h hn with ⟨d1, e, s1, u1, f1⟩ | ⟨h0, d1, e1, e2, e3, e4, s1, u1⟩
  · obtain ⟨i, hi, hne, hsl, -, -⟩ := rec_next (s := curF d) hr
    have hnc : newC (bothF d n) = c := by
      unfold newC
      rw [e]
      dsimp only
      rw [hne]
      rcases hi with rfl | rfl
      · rw [if_pos rfl] at hsl ⊢; rw [hsl]
      · rw [if_neg (by decide)] at hsl ⊢; rw [hsl]
    have hsf : storeF d n data = layF d1 (n + 1 - i) (c + 1) data := by
      unfold storeF
      rw [if_neg (by rw [hwr]; simp), if_neg (by omega), hnc, e]
      dsimp only
      rw [if_neg (by simp), hne, if_neg (by rcases hi with rfl | rfl <;> decide), show ((c : Int) + 1).toNat = c + 1 by omega]
    refine ⟨by rw [hnc]; omega, ?_⟩
    rw [hsf]
    have hm : 0 ≤ n + 1 - i ∧ n + 1 - i < d1.safe.length := by rw [s1.len]; rcases hi with rfl | rfl <;> omega
    rcases write_up u1 hm (recB_len (c + 1) data hd).2.1 with ⟨d2, e2, w2, u2, f2⟩ | ⟨h0, d2, e2, s2, u2⟩
    · have hput : ∀ s : Int → Bk, s (n + 1 - i) = recB (c + 1) data → (∀ j, (j = n ∨ j = n + 1) → j ≠ n + 1 - i → s j = curF d j) → RecI s n (c + 1) data := fun s h1 h2 => rec_put hc hr hne hd h1 h2
      rcases flush_up u2 (by rw [w2.len, s1.len]; omega) with ⟨d3, e3, w3, u3, f3⟩ | ⟨h0, d3, e3, s3, u3⟩
      · left
        have hcur : ∀ j : Int, 0 ≤ j → j < d.safe.length → curF d3 j = if j = n + 1 - i then recB (c + 1) data else curF d j := fun j j0 j1 => by
          rw [w3.cur j j0 (by rw [w2.len, s1.len]; exact j1), w2.cur, s1.cur]
        refine ⟨d3, ?_, u3, w3.still, w3.len.trans (w2.len.trans s1.len), ?_, fun j j0 j1 j2 j3 => ?_, fun e => f3 (f2 (f1 e))⟩
        · unfold layF; rw [e2, if_neg (by simp)]; exact e3
        · refine rec_of (hput _ (by rw [hcur _ (by omega) (by rw [s1.len] at hm; omega), if_pos rfl]) fun j hj hne' => ?_)
          rw [hcur j (by omega) (by omega), if_neg hne']
        · rw [hcur j j0 j1, if_neg (by rcases hi with rfl | rfl <;> omega)]
      · right
        refine ⟨fun e => h0 (f2 (f1 e)), d3, ?_, u3, s3.len.trans (w2.len.trans s1.len), fun s hs => ?_⟩
        · unfold layF; rw [e2, if_neg (by simp)]; exact e3
        · rcases w2.img (s3.img hs) with ⟨s0, k1, k2, k3⟩ | k1
          · have hk := img_still hst (s1.img k1)
            refine ⟨.inr (hput s k3 fun j hj hne' => ?_), fun j j0 j1 j2 j3 => ?_⟩
            · rw [k2 j hne', hk j (by omega) (by omega)]
            · rw [k2 j (by rcases hi with rfl | rfl <;> omega), hk j j0 j1]
          · exact same_img d1 s1 s k1
    · right
      refine ⟨fun e => h0 (f1 e), d2, ?_, u2, s2.len.trans s1.len, same_img d2 (s1.trans s2)⟩
      unfold layF; rw [e2, if_pos (by simp)]
  · refine ⟨?_, .inr ⟨h0, d1, ?_, u1, s1.len, same_img d1 s1⟩⟩
    · unfold newC
      rw [e2, if_neg (by decide), e3]
      exact ⟨by show (0 : Int) ≤ 0; omega, by show (0 : Int) ≤ 999999999; omega⟩
    · unfold storeF
      rw [if_neg (by rw [hwr]; simp), if_neg (by omega), if_pos (by rw [e1]; simp), e1, e4]
end Go.Proofs.Ytgbiffpnfpdcoaa
