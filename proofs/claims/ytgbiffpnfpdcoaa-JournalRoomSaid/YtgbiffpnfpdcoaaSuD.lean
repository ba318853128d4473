/- super: Load, walked. -/
import Derived.Test.YtgbiffpnfpdcoaaSuC
namespace Go.Proofs.Ytgbiffpnfpdcoaa
open Go.RowKit Go.Maps
set_option linter.unusedVariables false
set_option linter.unusedSimpArgs false

theorem wrongF_ok {d : Dv} {n : Int} (h : wrongF d n = 0) : 0 ≤ n ∧ n < (d.safe.length : Int) - 1 := by
  unfold wrongF at h
  split at h
  · simp at h
  · omega
theorem newF_of (s0 s1 : Sl) : newF s0 s1 = -1 ∨ newF s0 s1 = 0 ∨ newF s0 s1 = 1 := by
  unfold newF
  repeat' split
  all_goals simp
theorem bothF_new (d : Dv) (n : Int) : (bothF d n).newest = -1 ∨ (bothF d n).newest = 0 ∨ (bothF d n).newest = 1 := by
  unfold bothF
  split
  · exact .inl rfl
  · split
    · exact .inl rfl
    · exact newF_of _ _

structure Lo where
  data : List UInt8
  count : Int
  err : Int
  dev : Dv
def loadF (d : Dv) (n : Int) : Lo :=
  if wrongF d n ≠ 0 then ⟨[], 0, wrongF d n, d⟩ else if (bothF d n).err ≠ 0 then ⟨[], 0, (bothF d n).err, (bothF d n).dev⟩ else if (bothF d n).newest < 0 then ⟨[], 0, 30, (bothF d n).dev⟩
  else if (bothF d n).newest = 0 then ⟨(bothF d n).s0.data, (bothF d n).s0.count, 0, (bothF d n).dev⟩ else ⟨(bothF d n).s1.data, (bothF d n).s1.count, 0, (bothF d n).dev⟩
def LoEnd (w : World) (g : Nat) (ρ : Nat → Option DRol) (N : Nat) (X : Lo) (e : Ending) (w' : World) : Prop :=
  ∃ v, e = .returned (.tuple #[v, .int .i64 X.count, .int .i64 X.err]) ∧ RdB w' v X.data ∧ (∀ k, v.ownBlock = some k → w.heap.size ≤ k) ∧ DvAt w' g ρ N X.dev ∧ Keep (fun k => k ≠ g) w w'

theorem Load_nil (w : World) (n : Int) : Calls Try.prog 22 #[.pointer none, .int .i64 n] w fun e w' => e = .returned (.tuple #[.slice none 0 0, .int .i64 0, .int .i64 1]) ∧ w = w' := by
  go_enter Try.func22, Try.ntmps22
  go_wp2_with fail
  refine (wrong_nil _ _).mono ?_
  rintro e w1 ⟨rfl, rfl⟩
  go_wp2_with fail
  refine bodyPost_ret (v := .tuple #[.slice none 0 0, .int .i64 0, .int .i64 1]) (by simp [results, Try.results22, go_sem]) rfl ?_
  exact ⟨rfl, rfl⟩

set_option maxRecDepth 100000 in
set_option maxHeartbeats 2000000 in
theorem Load_any (w : World) (g : Nat) (ρ : Nat → Option DRol) (N : Nat) (d : Dv) (h : DvAt w g ρ N d) (hN : N ≤ 999999999) (n : Int) (hn : -9223372036854775808 ≤ n ∧ n ≤ 9223372036854775807) :
    Calls Try.prog 22 #[.pointer (some ⟨g, 0, none⟩), .int .i64 n] w (LoEnd w g ρ (N + 2) (loadF d n)) := by
  have hsz : d.safe.length ≤ 512 := by obtain ⟨_, _, _, h⟩ := h; exact h.size.2
  have H := hid h
  have HN := hid hn
  clear h hn
  go_enter Try.func22, Try.ntmps22
  go_wp2_with fail
  refine (wrong_any w g ρ N d H.out n HN.out).mono ?_
  rintro e w1 ⟨rfl, rfl⟩
  by_cases hw : wrongF d n = 0
  · have hL := hid (show loadF d n = if (bothF d n).err ≠ 0 then ⟨[], 0, (bothF d n).err, (bothF d n).dev⟩ else if (bothF d n).newest < 0 then ⟨[], 0, 30, (bothF d n).dev⟩ else if (bothF d n).newest = 0 then ⟨(bothF d n).s0.data, (bothF d n).s0.count, 0, (bothF d n).dev⟩ else ⟨(bothF d n).s1.data, (bothF d n).s1.count, 0, (bothF d n).dev⟩ by unfold loadF; rw [if_neg (by simpa using hw)])
    obtain ⟨hw1, hw2⟩ := wrongF_ok hw
    rw [hw]
    have hnew := bothF_new d n
    have hb := both_any w g ρ N d H.out hN n (by omega)
    generalize bothF d n = X at hL hnew hb
    clear hw
    go_wp2_with fail
    refine hb.mono ?_
    clear hb
    rintro e w2 ⟨v0, v1, rfl, hr0, hr1, hb0, hb1, hd2, hk2⟩
    obtain ⟨va, vc, rfl⟩ := hr0.slice'
    obtain ⟨vb, vd, rfl⟩ := hr1.slice'
    have HR0 := hid hr0
    have HR1 := hid hr1
    have HB0 := hid hb0
    have HB1 := hid hb1
    have HD2 := hid hd2
    have HK2 := hid hk2
    clear hr0 hr1 hb0 hb1 hd2 hk2
    go_upto_region 5 with fail
    obtain ⟨wx, hwx⟩ : ∃ wx, wx = w2.alloc (.cells #[.bool X.s0.ok, .int .i64 X.s0.count, .slice va X.s0.data.length vc, .bool X.s1.ok, .int .i64 X.s1.count, .slice vb X.s1.data.length vd] 96) := ⟨_, rfl⟩
    rw [← hwx]
    have hxx : Ext w2 wx := by rw [hwx]; exact (Ext.refl _).alloc _
    have hrx : wx.heap[w2.heap.size]? = some (.cells #[.bool X.s0.ok, .int .i64 X.s0.count, .slice va X.s0.data.length vc, .bool X.s1.ok, .int .i64 X.s1.count, .slice vb X.s1.data.length vd] 96 (0, 0)) := by rw [hwx]; exact heap_alloc_new _ _
    clear hwx
    obtain ⟨z0, z1, z2, z3, z4, z5⟩ := row6 hrx
    have HXX := hid hxx
    clear hxx hrx
    by_cases he : X.err = 0
    · have hL2 := hid (hL.out.trans (if_neg (by simpa using he)))
      rw [he]
      clear he
      rcases hnew with h | h | h
      · have hL3 := hid (hL2.out.trans (if_pos (by rw [h]; omega)))
        rw [h]
        clear h
        go_wp2_with fail
        refine bodyPost_ret (v := .tuple #[.slice none 0 0, .int .i64 0, .int .i64 30]) (by simp [results, Try.results22, go_sem]) rfl ?_
        rw [hL3.out]
        exact ⟨_, rfl, RdB.nil _, by simp [Value.ownBlock], HD2.out.ext HXX.out, HK2.out.trans (HXX.out.keep _)⟩
      · have hL3 := hid ((hL2.out.trans (if_neg (by rw [h]; omega))).trans (if_pos h))
        rw [h]
        clear h
        go_wp2_with fail
        go_region
        all_goals
          go_wp2_with fail
          refine bodyPost_ret (v := .tuple #[.slice va X.s0.data.length vc, .int .i64 X.s0.count, .int .i64 0]) (by simp [results, Try.results22, go_sem]) rfl ?_
          rw [hL3.out]
          exact ⟨_, rfl, HR0.out.ext (HXX.out.trans (by (· repeat (first | (with_reducible assumption) | exact Ext.refl _ | refine Ext.alloc ?_ _ | refine Ext.drew ?_ | refine Ext.drewN ?_ _ | (apply Ext.snart; (with_reducible assumption)))))), HB0.out, HD2.out.ext (HXX.out.trans (by (· repeat (first | (with_reducible assumption) | exact Ext.refl _ | refine Ext.alloc ?_ _ | refine Ext.drew ?_ | refine Ext.drewN ?_ _ | (apply Ext.snart; (with_reducible assumption)))))), HK2.out.trans ((HXX.out.trans (by (· repeat (first | (with_reducible assumption) | exact Ext.refl _ | refine Ext.alloc ?_ _ | refine Ext.drew ?_ | refine Ext.drewN ?_ _ | (apply Ext.snart; (with_reducible assumption)))))).keep _)⟩
      · have hL3 := hid ((hL2.out.trans (if_neg (by rw [h]; omega))).trans (if_neg (by rw [h]; omega)))
        rw [h]
        clear h
        go_wp2_with fail
        go_region
        all_goals
          go_wp2_with fail
          refine bodyPost_ret (v := .tuple #[.slice vb X.s1.data.length vd, .int .i64 X.s1.count, .int .i64 0]) (by simp [results, Try.results22, go_sem]) rfl ?_
          rw [hL3.out]
          exact ⟨_, rfl, HR1.out.ext (HXX.out.trans (by (· repeat (first | (with_reducible assumption) | exact Ext.refl _ | refine Ext.alloc ?_ _ | refine Ext.drew ?_ | refine Ext.drewN ?_ _ | (apply Ext.snart; (with_reducible assumption)))))), HB1.out, HD2.out.ext (HXX.out.trans (by (· repeat (first | (with_reducible assumption) | exact Ext.refl _ | refine Ext.alloc ?_ _ | refine Ext.drew ?_ | refine Ext.drewN ?_ _ | (apply Ext.snart; (with_reducible assumption)))))), HK2.out.trans ((HXX.out.trans (by (· repeat (first | (with_reducible assumption) | exact Ext.refl _ | refine Ext.alloc ?_ _ | refine Ext.drew ?_ | refine Ext.drewN ?_ _ | (apply Ext.snart; (with_reducible assumption)))))).keep _)⟩
    · have hL2 := hid (hL.out.trans (if_pos (by simpa using he)))
      clear hnew
      go_wp2_with fail
      refine bodyPost_ret (v := .tuple #[.slice none 0 0, .int .i64 0, .int .i64 X.err]) (by simp [results, Try.results22, go_sem]) rfl ?_
      rw [hL2.out]
      exact ⟨_, rfl, RdB.nil _, by simp [Value.ownBlock], HD2.out.ext HXX.out, HK2.out.trans (HXX.out.keep _)⟩
  · have hL := hid (show loadF d n = ⟨[], 0, wrongF d n, d⟩ by unfold loadF; rw [if_pos (by simpa using hw)])
    generalize wrongF d n = e at hw hL
    go_wp2_with fail
    refine bodyPost_ret (v := .tuple #[.slice none 0 0, .int .i64 0, .int .i64 e]) (by simp [results, Try.results22, go_sem]) rfl ?_
    rw [hL.out]
    exact ⟨_, rfl, RdB.nil _, by simp [Value.ownBlock], H.out.mono (by omega), Keep.refl _ _⟩
end Go.Proofs.Ytgbiffpnfpdcoaa
