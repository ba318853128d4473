/- The reference's SameFrames, walked; behind. -/
import Derived.Test.YthmpikbbkoblfaaRef
namespace Go.Proofs.Ythmpikbbkoblfaa
open Go.RowKit
set_option linter.unusedVariables false
set_option linter.unusedSimpArgs false

/-- v is a []api.Frame that reads as fs in w -/
def RdF (w : World) (v : Value) (fs : List (UInt8 × List UInt8)) : Prop :=
  ∃ a cap, v = .slice a fs.length cap ∧ fs.length ≤ cap ∧ cap ≤ 9223372036854775807 ∧
    (0 < fs.length → ∃ g o, a = some ⟨g, o, none⟩ ∧ g < w.heap.size) ∧
    ∀ i (h : i < fs.length) g o, a = some ⟨g, o, none⟩ → w.cell? ⟨g, o + i * 2, none⟩ = some (.int .u8 ((fs[i].1.toNat : Nat) : Int)) ∧ ∃ d, w.cell? ⟨g, o + i * 2 + 1, none⟩ = some d ∧ RdB w d fs[i].2

theorem RdF.below {w w' : World} {v : Value} {fs : List (UInt8 × List UInt8)} (h : RdF w v fs) (hb : Below w.heap.size w w') : RdF w' v fs := by
  obtain ⟨a, cap, rfl, h1, h2, h3, h4⟩ := h
  refine ⟨a, cap, rfl, h1, h2, fun h => ?_, fun i hi g o ha => ?_⟩
  · obtain ⟨g, o, ha, hg⟩ := h3 h
    exact ⟨g, o, ha, Nat.lt_of_lt_of_le hg hb.size⟩
  · obtain ⟨g', o', ha', hg⟩ := h3 (by omega)
    rw [ha] at ha'
    simp only [Option.some.injEq, Addr.mk.injEq, and_true] at ha'
    obtain ⟨rfl, rfl⟩ := ha'
    obtain ⟨c0, d, c1, hd⟩ := h4 i hi g o ha
    exact ⟨(hb.cell (p := ⟨g, _, none⟩) hg).trans c0, d, (hb.cell (p := ⟨g, _, none⟩) hg).trans c1, hd.below hb⟩

theorem rdF_blk (w : World) (g : Nat) (k : UInt8) (dv : Value) (data : List UInt8) (t : TypeId) (h : RdB w dv data) (hg : w.heap.size = g) :
    RdF (w.alloc (.cells #[.int .u8 ((k.toNat : Nat) : Int), dv] t)) (.slice (some ⟨g, 0, none⟩) 1 1) [(k, data)] := by
  subst hg
  refine ⟨_, _, rfl, Nat.le_refl _, by omega, fun _ => ⟨_, _, rfl, by simp⟩, fun i hi g o e => ?_⟩
  simp only [Option.some.injEq, Addr.mk.injEq, and_true] at e
  obtain ⟨rfl, rfl⟩ := e
  simp only [List.length_singleton] at hi
  obtain rfl : i = 0 := by omega
  exact ⟨by simp [go_sem], dv, by simp [go_sem], h.alloc _⟩

theorem RdF.alloc {w : World} {v : Value} {fs : List (UInt8 × List UInt8)} (h : RdF w v fs) (o : Obj) : RdF (w.alloc o) v fs := h.below ((Below.refl _ _).alloc (Nat.le_refl _) _)

theorem RdB.drewN {w : World} {v : Value} {l : List UInt8} (h : RdB w v l) (n : Nat) : RdB (w.drewN n) v l := Rd.carry h (by simp) fun k hk _ => by simp

set_option maxRecDepth 100000 in
set_option maxHeartbeats 1000000 in
theorem SameFrames_any (w : World) (va vb : Value) (fs gs : List (UInt8 × List UInt8)) (ha : RdF w va fs) (hb : RdF w vb gs) :
    Calls Try.prog 24 #[va, vb] w fun e w' => e = .returned (.bool (decide (fs = gs))) ∧ Below w.heap.size w w' := by
  have HA := hid ha
  have HB := hid hb
  obtain ⟨a, cap, rfl, h1, h2, h3, h4⟩ := id ha
  obtain ⟨b, capb, rfl, k1, k2, k3, k4⟩ := id hb
  clear h3 h4 k3 k4 ha hb
  by_cases hn : fs.length = gs.length
  · have hn' : (fs.length : Int) = (gs.length : Int) := by omega
    have hn'' : decide ((fs.length : Int) = (gs.length : Int)) = true := by simp [hn]
    go_enter Try.func24, Try.ntmps24
    go_wp2
    go_loopw [5] (fun i wr => ∃ k : Nat, k ≤ fs.length ∧ i = .int .i64 k ∧ fs.take k = gs.take k ∧ Below w.heap.size w wr) (fun i _ => fs.length - (intOf i).toNat)
    case atStart => exact ⟨0, by omega, rfl, rfl, Below.refl _ _⟩
    case round =>
      obtain ⟨k, hk, rfl, heq, hbel⟩ := hrel
      have HE := hid heq
      clear heq
      by_cases hl : k < fs.length
      · obtain ⟨_, _, e, _, _, h3, h4⟩ := HA.out.below hbel
        simp only [Value.slice.injEq] at e
        obtain ⟨rfl, -, rfl⟩ := e
        obtain ⟨g, o, rfl, hg⟩ := h3 (by omega)
        obtain ⟨c0, d, c1, hd⟩ := h4 k hl g o rfl
        obtain ⟨_, _, e, _, _, h3', h4'⟩ := HB.out.below hbel
        simp only [Value.slice.injEq] at e
        obtain ⟨rfl, -, rfl⟩ := e
        have hl' : k < gs.length := by omega
        obtain ⟨g', o', rfl, hg'⟩ := h3' (by omega)
        obtain ⟨c0', d', c1', hd'⟩ := h4' k hl' g' o' rfl
        have T1 := hid (List.take_succ_eq_append_getElem hl)
        have T2 := hid (List.take_succ_eq_append_getElem hl')
        have G1 := hid (List.getElem_mem hl)
        clear h3 h4 h3' h4'
        obtain ⟨x, hx⟩ : ∃ x, x = fs[k] := ⟨_, rfl⟩
        obtain ⟨y, hy⟩ : ∃ y, y = gs[k] := ⟨_, rfl⟩
        rw [← hx] at c0 hd T1
        rw [← hy] at c0' hd' T2
        have HX := hid hx
        have HY := hid hy
        clear hx hy
        have s1 := fun n => run_strB (hd.drewN n)
        have s2 := fun n => run_strB (hd'.drewN n)
        have i1 : (k : Int) < (fs.length : Int) := by omega
        have i2 : (k : Int) < (gs.length : Int) := by omega
        have i3 : (0 : Int) ≤ (k : Int) := by omega
        clear hd hd'
        by_cases hxk : ((x.1.toNat : Nat) : Int) = ((y.1.toNat : Nat) : Int)
        · by_cases hxs : (⟨x.2.toArray⟩ : ByteArray) = ⟨y.2.toArray⟩
          · go_wp2
            go_quiet (fail)
            go_wp2
            go_roundw
            case rel =>
              refine ⟨k + 1, by omega, by go_num, ?_, below_drewN hbel nq⟩
              rw [T1.out, T2.out, HE.out]
              have e1 : x.1 = y.1 := UInt8.toNat_inj.1 (by omega)
              have e2 : x.2 = y.2 := by simpa using hxs
              rw [show x = y from Prod.ext e1 e2]
            case measure => simp [intOf]; omega
          · have hxs' : ¬ y.2 = x.2 := fun e => hxs (by rw [e])
            have hxs1 : ¬ x.2 = y.2 := fun e => hxs (by rw [e])
            have hxs3 : (x.2 == y.2) = false := by simpa using hxs1
            have hxs2 : ¬ x.2.toArray = y.2.toArray := fun e => hxs (by rw [e])
            go_wp2
            go_quiet (fail)
            go_wp2
            go_ret
            refine ⟨?_, below_drewN hbel nq⟩
            have : ¬ fs = gs := fun e => by
              subst e
              exact hxs' (by rw [HX.out, HY.out])
            simp [this]
        · go_wp2
          go_quiet (fail)
          go_wp2
          go_ret
          refine ⟨?_, below_drewN hbel nq⟩
          have : ¬ fs = gs := fun e => by
            subst e
            exact hxk (by rw [HX.out, HY.out])
          simp [this]
      · obtain rfl : k = fs.length := by omega
        go_wp2
        go_ret
        refine ⟨?_, hbel⟩
        have : fs = gs := by
          have := HE.out
          rwa [List.take_length, List.take_of_length_le (by omega)] at this
        simp [this]
  · have hn' : ¬ (fs.length : Int) = (gs.length : Int) := by omega
    go_enter Try.func24, Try.ntmps24
    go_wp2
    go_ret
    have : ¬ fs = gs := fun e => hn (by rw [e])
    exact ⟨by simp [this], Below.refl _ _⟩

set_option maxRecDepth 100000 in
set_option maxHeartbeats 1000000 in
theorem behind_any (w : World) (base : Nat) (gv vb vl : Value) (l lb ll : List UInt8) (hl : l = lb ++ ll) (hg : OwnB w base gv l) (hb : RdB w vb lb) (hr : RdB w vl ll) (hlen : l.length ≤ 140737488355328) (hbase : base ≤ w.heap.size) :
    Calls Try.prog 25 #[gv, vb, vl] w fun e w' => e = .returned (.bool true) ∧ Below base w w' := by
  obtain ⟨a, cap, rfl⟩ := hg.slice
  have s1 := run_strB (rdB_own hg)
  have s2 := run_strB hb
  have s3 := run_strB hr
  have hs : (⟨lb.toArray⟩ : ByteArray) ++ (⟨ll.toArray⟩ : ByteArray) = ⟨l.toArray⟩ := by
    subst hl
    apply ByteArray.ext
    simp
  have hsz : ¬ 9223372036854775807 < (⟨lb.toArray⟩ : ByteArray).size + (⟨ll.toArray⟩ : ByteArray).size := by
    have := congrArg List.length hl
    simp only [List.length_append] at this
    show ¬ 9223372036854775807 < lb.toArray.size + ll.toArray.size
    simp only [List.size_toArray]
    omega
  clear hl
  have hc : l.length = 0 ∧ a = none ∨ ∃ g, a = some ⟨g, 0, none⟩ ∧ base ≤ g := by
    rcases hg.2 with ⟨e, h0⟩ | ⟨g, cap', cur, e, hB, _⟩
    · simp only [Value.slice.injEq] at e
      exact .inl ⟨e.2.1, e.1⟩
    · simp only [Value.slice.injEq] at e
      exact .inr ⟨g, e.1, hB⟩
  have HG := hid hg
  have HS := hid hs
  have HC := hid hc
  clear hg hc hb hr
  generalize (⟨l.toArray⟩ : ByteArray) = sl at *
  generalize (⟨lb.toArray⟩ : ByteArray) = sb at *
  generalize (⟨ll.toArray⟩ : ByteArray) = sr at *
  go_enter Try.func25, Try.ntmps25
  go_wp2_with fail
  clear s1 s2 s3 hs
  go_loopw [8] (fun i wr => ∃ k : Nat, k ≤ l.length ∧ i = .int .i64 k ∧ ∃ l', l'.length = l.length ∧ OwnB wr base (.slice a l.length cap) l' ∧ Below base w wr) (fun i _ => l.length - (intOf i).toNat)
  case atStart => exact ⟨0, by omega, rfl, l, rfl, HG.out, Below.refl _ _⟩
  case round =>
    obtain ⟨k, hk, rfl, l', hl', ho, hbel⟩ := hrel
    by_cases hlt : k < l.length
    · rcases HC.out with ⟨h0, _⟩ | ⟨g, rfl, hg⟩
      · omega
      · have hcell := ho.cellAt k (by omega)
        have hfr := ho.frozenAt hl'.symm k
        have hset := hid (ho.set hl'.symm k 3)
        generalize l'[k] = x at hcell
        have HO := hid ho
        clear ho
        go_wp2_with fail
        go_roundw
        case rel => exact ⟨k + 1, by omega, by go_num, l'.set k 3, by rw [List.length_set, hl'], hset.out, hbel.setCell hg _⟩
        case measure => simp [intOf]; omega
    · obtain rfl : k = l.length := by omega
      go_wp2_with fail
      go_ret
      exact ⟨rfl, hbel⟩

end Go.Proofs.Ythmpikbbkoblfaa
