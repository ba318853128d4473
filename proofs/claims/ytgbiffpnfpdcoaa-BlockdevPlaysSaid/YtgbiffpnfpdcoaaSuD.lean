/- super: Load, a record laid, Format. -/
import Derived.Test.YtgbiffpnfpdcoaaSuC
import Derived.Test.YtgbiffpnfpdcoaaAppZ

/- super: Load, walked. -/
namespace Go.Proofs.Ytgbiffpnfpdcoaa
open Go.RowKit Go.Maps
set_option linter.unusedVariables false
set_option linter.unusedSimpArgs false

theorem wrongF_ok {d : Dv} {n : Int} (h : wrongF d n = 0) : 0 ≤ n ∧ n < (d.safe.length : Int) - 1 := by
  unfold wrongF at h
  split at h
  · simp at h
  · omega
theorem newF_of (s0 s1 : Sl) : newF s0 s1 = -1 ∨ newF s0 s1 = 0 ∨ newF s0 s1 = 1 := by
  unfold newF
  repeat' split
  all_goals simp
theorem bothF_new (d : Dv) (n : Int) : (bothF d n).newest = -1 ∨ (bothF d n).newest = 0 ∨ (bothF d n).newest = 1 := by
  unfold bothF
  split
  · exact .inl rfl
  · split
    · exact .inl rfl
    · exact newF_of _ _

structure Lo where
  data : List UInt8
  count : Int
  err : Int
  dev : Dv
def loadF (d : Dv) (n : Int) : Lo :=
  if wrongF d n ≠ 0 then ⟨[], 0, wrongF d n, d⟩ else if (bothF d n).err ≠ 0 then ⟨[], 0, (bothF d n).err, (bothF d n).dev⟩ else if (bothF d n).newest < 0 then ⟨[], 0, 30, (bothF d n).dev⟩
  else if (bothF d n).newest = 0 then ⟨(bothF d n).s0.data, (bothF d n).s0.count, 0, (bothF d n).dev⟩ else ⟨(bothF d n).s1.data, (bothF d n).s1.count, 0, (bothF d n).dev⟩
def LoEnd (w : World) (g : Nat) (ρ : Nat → Option DRol) (N : Nat) (X : Lo) (e : Ending) (w' : World) : Prop :=
  ∃ v, e = .returned (.tuple #[v, .int .i64 X.count, .int .i64 X.err]) ∧ RdB w' v X.data ∧ (∀ k, v.ownBlock = some k → w.heap.size ≤ k) ∧ DvAt w' g ρ N X.dev ∧ Keep (fun k => k ≠ g) w w'

theorem Load_nil (w : World) (n : Int) : Calls Try.prog 22 #[.pointer none, .int .i64 n] w fun e w' => e = .returned (.tuple #[.slice none 0 0, .int .i64 0, .int .i64 1]) ∧ w = w' := by
  go_enter Try.func22, Try.ntmps22
  go_wp2_with fail
  refine (wrong_nil _ _).mono ?_
  rintro e w1 ⟨rfl, rfl⟩
  go_wp2_with fail
  refine bodyPost_ret (v := .tuple #[.slice none 0 0, .int .i64 0, .int .i64 1]) (by simp [results, Try.results22, go_sem]) rfl ?_
  exact ⟨rfl, rfl⟩

set_option maxRecDepth 100000 in
set_option maxHeartbeats 2000000 in
theorem Load_any (w : World) (g : Nat) (ρ : Nat → Option DRol) (N : Nat) (d : Dv) (h : DvAt w g ρ N d) (hN : N ≤ 999999999) (n : Int) (hn : -9223372036854775808 ≤ n ∧ n ≤ 9223372036854775807) :
    Calls Try.prog 22 #[.pointer (some ⟨g, 0, none⟩), .int .i64 n] w (LoEnd w g ρ (N + 2) (loadF d n)) := by
  have hsz : d.safe.length ≤ 512 := by obtain ⟨_, _, _, h⟩ := h; exact h.size.2
  have H := hid h
  have HN := hid hn
  clear h hn
  go_enter Try.func22, Try.ntmps22
  go_wp2_with fail
  refine (wrong_any w g ρ N d H.out n HN.out).mono ?_
  rintro e w1 ⟨rfl, rfl⟩
  by_cases hw : wrongF d n = 0
  · have hL := hid (show loadF d n = if (bothF d n).err ≠ 0 then ⟨[], 0, (bothF d n).err, (bothF d n).dev⟩ else if (bothF d n).newest < 0 then ⟨[], 0, 30, (bothF d n).dev⟩ else if (bothF d n).newest = 0 then ⟨(bothF d n).s0.data, (bothF d n).s0.count, 0, (bothF d n).dev⟩ else ⟨(bothF d n).s1.data, (bothF d n).s1.count, 0, (bothF d n).dev⟩ by unfold loadF; rw [if_neg (by simpa using hw)])
    obtain ⟨hw1, hw2⟩ := wrongF_ok hw
    rw [hw]
    have hnew := bothF_new d n
    have hb := both_any w g ρ N d H.out hN n (by omega)
    generalize bothF d n = X at hL hnew hb
    clear hw
    go_wp2_with fail
    refine hb.mono ?_
    clear hb
    rintro e w2 ⟨v0, v1, rfl, hr0, hr1, hb0, hb1, hd2, hk2⟩
    obtain ⟨va, vc, rfl⟩ := hr0.slice'
    obtain ⟨vb, vd, rfl⟩ := hr1.slice'
    have HR0 := hid hr0
    have HR1 := hid hr1
    have HB0 := hid hb0
    have HB1 := hid hb1
    have HD2 := hid hd2
    have HK2 := hid hk2
    clear hr0 hr1 hb0 hb1 hd2 hk2
    go_upto_region 5 with fail
    obtain ⟨wx, hwx⟩ : ∃ wx, wx = w2.alloc (.cells #[.bool X.s0.ok, .int .i64 X.s0.count, .slice va X.s0.data.length vc, .bool X.s1.ok, .int .i64 X.s1.count, .slice vb X.s1.data.length vd] 96) := ⟨_, rfl⟩
    rw [← hwx]
    have hxx : Ext w2 wx := by rw [hwx]; exact (Ext.refl _).alloc _
    have hrx : wx.heap[w2.heap.size]? = some (.cells #[.bool X.s0.ok, .int .i64 X.s0.count, .slice va X.s0.data.length vc, .bool X.s1.ok, .int .i64 X.s1.count, .slice vb X.s1.data.length vd] 96 (0, 0)) := by rw [hwx]; exact heap_alloc_new _ _
    clear hwx
    obtain ⟨z0, z1, z2, z3, z4, z5⟩ := row6 hrx
    have HXX := hid hxx
    clear hxx hrx
    by_cases he : X.err = 0
    · have hL2 := hid (hL.out.trans (if_neg (by simpa using he)))
      rw [he]
      clear he
      rcases hnew with h | h | h
      · have hL3 := hid (hL2.out.trans (if_pos (by rw [h]; omega)))
        rw [h]
        clear h
        go_wp2_with fail
        refine bodyPost_ret (v := .tuple #[.slice none 0 0, .int .i64 0, .int .i64 30]) (by simp [results, Try.results22, go_sem]) rfl ?_
        rw [hL3.out]
        exact ⟨_, rfl, RdB.nil _, by simp [Value.ownBlock], HD2.out.ext HXX.out, HK2.out.trans (HXX.out.keep _)⟩
      · have hL3 := hid ((hL2.out.trans (if_neg (by rw [h]; omega))).trans (if_pos h))
        rw [h]
        clear h
        go_wp2_with fail
        go_region
        all_goals
          go_wp2_with fail
          refine bodyPost_ret (v := .tuple #[.slice va X.s0.data.length vc, .int .i64 X.s0.count, .int .i64 0]) (by simp [results, Try.results22, go_sem]) rfl ?_
          rw [hL3.out]
          exact ⟨_, rfl, HR0.out.ext (HXX.out.trans (by (· repeat (first | (with_reducible assumption) | exact Ext.refl _ | refine Ext.alloc ?_ _ | refine Ext.drew ?_ | refine Ext.drewN ?_ _ | (apply Ext.snart; (with_reducible assumption)))))), HB0.out, HD2.out.ext (HXX.out.trans (by (· repeat (first | (with_reducible assumption) | exact Ext.refl _ | refine Ext.alloc ?_ _ | refine Ext.drew ?_ | refine Ext.drewN ?_ _ | (apply Ext.snart; (with_reducible assumption)))))), HK2.out.trans ((HXX.out.trans (by (· repeat (first | (with_reducible assumption) | exact Ext.refl _ | refine Ext.alloc ?_ _ | refine Ext.drew ?_ | refine Ext.drewN ?_ _ | (apply Ext.snart; (with_reducible assumption)))))).keep _)⟩
      · have hL3 := hid ((hL2.out.trans (if_neg (by rw [h]; omega))).trans (if_neg (by rw [h]; omega)))
        rw [h]
        clear h
        go_wp2_with fail
        go_region
        all_goals
          go_wp2_with fail
          refine bodyPost_ret (v := .tuple #[.slice vb X.s1.data.length vd, .int .i64 X.s1.count, .int .i64 0]) (by simp [results, Try.results22, go_sem]) rfl ?_
          rw [hL3.out]
          exact ⟨_, rfl, HR1.out.ext (HXX.out.trans (by (· repeat (first | (with_reducible assumption) | exact Ext.refl _ | refine Ext.alloc ?_ _ | refine Ext.drew ?_ | refine Ext.drewN ?_ _ | (apply Ext.snart; (with_reducible assumption)))))), HB1.out, HD2.out.ext (HXX.out.trans (by (· repeat (first | (with_reducible assumption) | exact Ext.refl _ | refine Ext.alloc ?_ _ | refine Ext.drew ?_ | refine Ext.drewN ?_ _ | (apply Ext.snart; (with_reducible assumption)))))), HK2.out.trans ((HXX.out.trans (by (· repeat (first | (with_reducible assumption) | exact Ext.refl _ | refine Ext.alloc ?_ _ | refine Ext.drew ?_ | refine Ext.drewN ?_ _ | (apply Ext.snart; (with_reducible assumption)))))).keep _)⟩
    · have hL2 := hid (hL.out.trans (if_pos (by simpa using he)))
      clear hnew
      go_wp2_with fail
      refine bodyPost_ret (v := .tuple #[.slice none 0 0, .int .i64 0, .int .i64 X.err]) (by simp [results, Try.results22, go_sem]) rfl ?_
      rw [hL2.out]
      exact ⟨_, rfl, RdB.nil _, by simp [Value.ownBlock], HD2.out.ext HXX.out, HK2.out.trans (HXX.out.keep _)⟩
  · have hL := hid (show loadF d n = ⟨[], 0, wrongF d n, d⟩ by unfold loadF; rw [if_pos (by simpa using hw)])
    generalize wrongF d n = e at hw hL
    go_wp2_with fail
    refine bodyPost_ret (v := .tuple #[.slice none 0 0, .int .i64 0, .int .i64 e]) (by simp [results, Try.results22, go_sem]) rfl ?_
    rw [hL.out]
    exact ⟨_, rfl, RdB.nil _, by simp [Value.ownBlock], H.out.mono (by omega), Keep.refl _ _⟩
end Go.Proofs.Ytgbiffpnfpdcoaa

/- super: lay, walked. -/
namespace Go.Proofs.Ytgbiffpnfpdcoaa
open Go.RowKit Go.Maps
set_option linter.unusedVariables false
set_option linter.unusedSimpArgs false

/-- a record's block -/
def recB (c : Nat) (data : List UInt8) : List UInt8 := putF 115 (putU c ++ data) ++ List.replicate (512 - (putF 115 (putU c ++ data)).length) 0
theorem recB_len (c : Nat) (data : List UInt8) (h : data.length ≤ 400) : (putF 115 (putU c ++ data)).length ≤ 512 ∧ (recB c data).length = 512 ∧ (putU c ++ data).length ≤ 410 := by
  have h1 := putU_len c
  have h2 := putU_len (putU c ++ data).length
  have h3 : (putF 115 (putU c ++ data)).length ≤ 512 := by rw [putF_length, List.length_append]; rw [List.length_append] at h2; omega
  refine ⟨h3, ?_, by rw [List.length_append]; omega⟩
  unfold recB
  rw [List.length_append, List.length_replicate]; omega

def layF (d : Dv) (n : Int) (c : Nat) (data : List UInt8) : Int × Dv := if (writeF d n (recB c data)).1 ≠ 0 then writeF d n (recB c data) else flushF (writeF d n (recB c data)).2

theorem wr_then {w wa w1 w2 : World} {ρ ρ1 ρ2 : Nat → Option DRol} (hx : Ext w wa) (hk1 : Keep (fun k => ρ k = none) wa w1) (hr1 : ∀ k, ρ1 k ≠ none → ρ k ≠ none ∨ wa.heap.size ≤ k) (hk2 : Keep (fun k => ρ1 k = none) w1 w2) (hr2 : ∀ k, ρ2 k ≠ none → ρ1 k ≠ none ∨ w1.heap.size ≤ k) :
    Keep (fun k => ρ k = none) w w2 ∧ ∀ k, ρ2 k ≠ none → ρ k ≠ none ∨ w.heap.size ≤ k := by
  have z0 := hx.size
  have z1 := hk1.size
  refine ⟨?_, fun k hk => ?_⟩
  · have h1 : Keep (fun k => ρ k = none ∧ k < w.heap.size) w w1 := ((hx.keep _).trans hk1).mono fun k hk _ => hk.1
    have h2 : Keep (fun k => ρ k = none ∧ k < w.heap.size) w1 w2 := hk2.mono fun k hk _ => by
      by_cases h : ρ1 k = none
      · exact h
      · rcases hr1 k h with h' | h'
        · exact absurd hk.1 h'
        · omega
    exact (h1.trans h2).mono fun k hk hl => ⟨hk, hl⟩
  · rcases hr2 k hk with h | h
    · rcases hr1 k h with h | h
      · exact .inl h
      · right; omega
    · right; omega

theorem PutFrame_s (w : World) (dv : Value) (data : List UInt8) (hd : RdB w dv data) (hlong : data.length ≤ 2000) :
    Calls Try.prog 82 #[.slice none 0 0, .agg #[.int .u8 115, dv]] w fun e w' => ∃ v', e = .returned (.tuple #[v', .int .i64 0]) ∧ OwnB w' w.heap.size v' (putF 115 data) ∧ Below w.heap.size w w' := by
  have h := PutFrame_any w (.slice none 0 0) [] 115 dv data (RdB.nil _) hd hlong (by simp)
  rw [show (((115 : UInt8).toNat : Nat) : Int) = 115 from rfl, List.nil_append] at h
  exact h
set_option maxRecDepth 100000 in
set_option maxHeartbeats 400000 in
theorem lay_any (w : World) (g : Nat) (ρ : Nat → Option DRol) (N : Nat) (d : Dv) (h : DvAt w g ρ N d) (hN : N ≤ 999999990) (n : Int) (hn : -9223372036854775808 ≤ n ∧ n ≤ 9223372036854775807) (c : Nat) (hc : c ≤ 1000000000) (v : Value) (data : List UInt8) (hv : RdB w v data) (hdl : data.length ≤ 400) :
    Calls Try.prog 55 #[.pointer (some ⟨g, 0, none⟩), .int .i64 n, .int .i64 c, v] w (WrEnd w g ρ (N + 3) (layF d n c data)) := by
  obtain ⟨va, vc, rfl⟩ := hv.slice'
  obtain ⟨hB1, hB2, hB3⟩ := recB_len c data hdl
  have HRL := hid (fun k (hk : ρ k ≠ none) => h.rlt k hk)
  have HV := hid hv
  have H := hid h
  have HN := hid hn
  have hcm : (c : Int) % 18446744073709551616 = c := by omega
  have hpu := putU_len c
  obtain ⟨D, hD⟩ : ∃ D, D = putU c ++ data := ⟨_, rfl⟩
  have HDD := hid hD
  have HRB := hid (show recB c data = putF 115 D ++ List.replicate (512 - (putF 115 D).length) 0 by rw [hD, recB])
  rw [← hD] at hB1 hB3
  clear hD
  clear h hv hn
  go_enter Try.func55, Try.ntmps55
  go_wp2_with fail
  refine (PutUint_any w (.slice none 0 0) [] c (RdB.nil _) (by omega) (by simp)).mono ?_
  rintro e w1 ⟨v1, rfl, ho1, hb1⟩
  rw [List.nil_append] at ho1
  have hx1 := Ext.of hb1
  obtain ⟨a1, c1, rfl⟩ := ho1.slice
  have hs1 := hx1.size
  go_wp2_with (at_builtin; go_must (refine wl_appB rfl _ _ _ rfl w.heap.size _ (putU c) rfl (appB_own ho1) _ data rfl (src_B (HV.out.ext hx1)) ?_ ?_ ?_; (first | omega | skip); (first | omega | skip); intro v2 w2 k1 k2 k3 k4 k5 k6; have ho2 := k3 ho1; rw [← HDD.out] at ho2; have hx2 : Ext w w2 := Ext.step hx1 k5 (Nat.le_refl _); clear k1 k2 k3 k4 k5 k6 ho1; obtain ⟨a2, c2, rfl⟩ := ho2.slice))
  have hs2 := hx2.size
  refine (PutFrame_s w2 _ _ (rdB_own ho2) (by omega)).mono ?_
  rintro e w3 ⟨v3, rfl, ho3, hb3⟩
  have hx3 := Ext.of hb3
  have hs3 := hx3.size
  generalize putF 115 D = B at ho3 hB1 HRB
  obtain ⟨a3, c3, rfl⟩ := ho3.slice
  have hsub : IntKind.i64.wrap (512 - (B.length : Int)) = ((512 - B.length : Nat) : Int) := by rw [IntKind.wrap_i64]; omega
  have HX2 := hid hx2
  have HB2 := hid hB2
  clear ho2 hx1 hx2 hb1 hb3 hpu hcm hB2
  go_wp2_with (at_builtin; go_must (refine wl_appZ rfl _ _ rfl w2.heap.size _ B rfl (appB_own ho3) (512 - B.length) rfl ?_ ?_ ?_; (first | omega | skip); (first | omega | skip); intro v4 w4 k1 k2 k3 k4 k5 k6; have ho4 := k3 ho3; have hx4 : Ext w2 w4 := Ext.step hx3 k5 (Nat.le_refl _); clear k1 k2 k3 k4 k5 k6; obtain ⟨a4, c4, rfl⟩ := ho4.slice))
  have HX4 := hid (HX2.out.trans hx4)
  rw [← HRB.out] at ho4
  have HO4 := hid ho4
  have hvb : ∀ k, (Value.slice a4 (recB c data).length c4).ownBlock = some k → ρ k = none := fun k hk => by
    by_cases h : ρ k = none
    · exact h
    · have h1 := HRL.out k h
      have h2 := (World.ownsRow.lt ho4 k hk).1
      omega
  have hrd : RdB w4 (.slice a4 512 c4) (recB c data) := by
    have := rdB_own ho4
    rw [HB2.out] at this
    exact this
  rw [HB2.out] at hvb
  refine (Write_any w4 g ρ N d (H.out.ext HX4.out) (by omega) n HN.out _ (recB c data) hrd hvb).mono ?_
  rintro e w5 ⟨rfl, ρ1, hd5, hk5, hr5⟩
  clear hrd hvb ho4 ho3 hx4 hx3 hsub hB1
  by_cases hx : (writeF d n (recB c data)).1 = 0
  · have hL := hid (show layF d n c data = flushF (writeF d n (recB c data)).2 by unfold layF; rw [if_neg (by simpa using hx)])
    rw [hx]
    generalize (writeF d n (recB c data)).2 = d5 at hd5 hL
    have HD5 := hid hd5
    have HK5 := hid hk5
    have HR5 := hid hr5
    clear hd5 hk5 hr5 hx
    go_wp2_with fail
    refine (Flush_any w5 g ρ1 (N + 2) d5 HD5.out (by omega)).mono ?_
    rintro e w6 ⟨rfl, ρ2, hd6, hk6, hr6⟩
    have HD6 := hid hd6
    obtain ⟨h1, h2⟩ := wr_then HX4.out HK5.out HR5.out hk6 hr6
    have H1 := hid h1
    have H2 := hid h2
    clear hd6 hk6 hr6 h1 h2
    go_wp2_with fail
    go_ret
    exact ⟨by rw [hL.out]; rfl, ρ2, by rw [hL.out]; exact HD6.out, H1.out, H2.out⟩
  · have hL := hid (show layF d n c data = writeF d n (recB c data) by unfold layF; rw [if_pos (by simpa using hx)])
    generalize writeF d n (recB c data) = X at hd5 hL hx
    obtain ⟨x, d5⟩ := X
    dsimp only at hd5 hx
    have HD5 := hid hd5
    obtain ⟨h1, h2⟩ := wr_then HX4.out hk5 hr5 (Keep.refl _ _) (fun k h => .inl h)
    have H1 := hid h1
    have H2 := hid h2
    clear hd5 hk5 hr5 h1 h2
    go_wp2_with fail
    go_ret
    exact ⟨by rw [hL.out]; rfl, ρ1, by rw [hL.out]; exact HD5.out.mono (by omega), H1.out, H2.out⟩
end Go.Proofs.Ytgbiffpnfpdcoaa

/- super: Format, walked. -/
namespace Go.Proofs.Ytgbiffpnfpdcoaa
open Go.RowKit Go.Maps
set_option linter.unusedVariables false
set_option linter.unusedSimpArgs false

theorem makeZ (w : World) : (Instr.makeSlice 22 (.int .i64 512) (.int .i64 512)).run Try.prog w = .ok (.slice (some ⟨w.heap.size, 0, none⟩) 512 512) (w.alloc (.cells (bvs zb).toArray 5)) := by
  have h := run_make_row' (P := Try.prog) 22 5 (.int .u8 0) 1 Try.underlying22 infoU8 rfl .i64 .i64 512 (by omega) (by omega) w
  have e : madeCells #[Value.int .u8 0] 512 = (bvs zb).toArray := by
    apply Array.toList_inj.1
    rw [toList_madeCells_one, bvs_zb]
  rw [e] at h
  exact h

def formatF (d : Dv) (n : Int) (data : List UInt8) : Int × Dv :=
  if wrongF d n ≠ 0 then (wrongF d n, d) else if 400 < data.length then (31, d) else if (writeF d (n + 1) zb).1 ≠ 0 then writeF d (n + 1) zb
  else if (flushF (writeF d (n + 1) zb).2).1 ≠ 0 then flushF (writeF d (n + 1) zb).2 else layF (flushF (writeF d (n + 1) zb).2).2 n 0 data

theorem Format_nil (w : World) (n : Int) (v : Value) : Calls Try.prog 23 #[.pointer none, .int .i64 n, v] w fun e w' => e = .returned (.int .i64 1) ∧ w = w' := by
  go_enter Try.func23, Try.ntmps23
  go_wp2_with fail
  refine (wrong_nil _ _).mono ?_
  rintro e w1 ⟨rfl, rfl⟩
  go_wp2_with fail
  go_ret
  exact ⟨rfl, rfl⟩

set_option maxRecDepth 100000 in
set_option maxHeartbeats 1000000 in
theorem Format_any (w : World) (g : Nat) (ρ : Nat → Option DRol) (N : Nat) (d : Dv) (h : DvAt w g ρ N d) (hN : N ≤ 999999900) (n : Int) (hn : -9223372036854775808 ≤ n ∧ n ≤ 9223372036854775807) (v : Value) (data : List UInt8) (hv : RdB w v data) (hvb : 0 < data.length → ∀ k, v.ownBlock = some k → ρ k = none) :
    Calls Try.prog 23 #[.pointer (some ⟨g, 0, none⟩), .int .i64 n, v] w (WrEnd w g ρ (N + 6) (formatF d n data)) := by
  have hsz : d.safe.length ≤ 512 := by obtain ⟨_, _, _, h⟩ := h; exact h.size.2
  obtain ⟨va, vc, rfl⟩ := hv.slice'
  have HRL := hid (fun k (hk : ρ k ≠ none) => h.rlt k hk)
  have H := hid h
  have HN := hid hn
  have HV := hid hv
  have HVB := hid hvb
  clear h hn hv hvb
  go_enter Try.func23, Try.ntmps23
  go_wp2_with fail
  refine (wrong_any w g ρ N d H.out n HN.out).mono ?_
  rintro e w1 ⟨rfl, rfl⟩
  by_cases hw : wrongF d n = 0
  · have hF := hid (show formatF d n data = if 400 < data.length then (31, d) else if (writeF d (n + 1) zb).1 ≠ 0 then writeF d (n + 1) zb
      else if (flushF (writeF d (n + 1) zb).2).1 ≠ 0 then flushF (writeF d (n + 1) zb).2 else layF (flushF (writeF d (n + 1) zb).2).2 n 0 data by unfold formatF; rw [if_neg (by simpa using hw)])
    obtain ⟨hw1, hw2⟩ := wrongF_ok hw
    rw [hw]
    clear hw
    by_cases hl : 400 < data.length
    · have hF2 := hid (hF.out.trans (if_pos hl))
      go_wp2_with fail
      go_ret
      exact ⟨by rw [hF2.out]; rfl, ρ, by rw [hF2.out]; exact H.out.mono (by omega), Keep.refl _ _, fun k h => .inl h⟩
    · have hF2 := hid (hF.out.trans (if_neg hl))
      have hmk := makeZ
      have hl1 : ¬ (400 : Int) < (data.length : Int) := by omega
      have hwr : IntKind.i64.wrap (n + 1) = n + 1 := by rw [IntKind.wrap_i64]; omega
      go_wp2_with fail
      obtain ⟨wa, hwa⟩ : ∃ wa, wa = w.alloc (.cells (bvs zb).toArray 5) := ⟨_, rfl⟩
      have hxa : Ext w wa := by rw [hwa]; exact (Ext.refl _).alloc _
      have hra : wa.heap[w.heap.size]? = some (.cells (bvs zb).toArray 5 (0, 0)) := by rw [hwa]; exact heap_alloc_new _ _
      rw [← hwa]
      clear hwa hmk
      have hrd := rdB_row hra 512 zb_len.symm (by omega)
      refine (Write_any wa g ρ N d (H.out.ext hxa) (by omega) (n + 1) (by omega) _ zb hrd (fun k hk => ?_)).mono ?_
      · simp only [Value.ownBlock, Option.some.injEq] at hk
        by_cases h : ρ k = none
        · exact h
        · have := HRL.out k h; omega
      rintro e w5 ⟨rfl, ρ1, hd5, hk5, hr5⟩
      clear hra hrd
      by_cases hx : (writeF d (n + 1) zb).1 = 0
      · have hF3 := hid (hF2.out.trans (if_neg (by simpa using hx)))
        rw [hx]
        generalize (writeF d (n + 1) zb).2 = d5 at hd5 hF3
        have HD5 := hid hd5
        have HK5 := hid hk5
        have HR5 := hid hr5
        have HXA := hid hxa
        clear hd5 hk5 hr5 hx hxa hF hF2
        go_wp2_with fail
        refine (Flush_any w5 g ρ1 (N + 2) d5 HD5.out (by omega)).mono ?_
        rintro e w6 ⟨rfl, ρ2, hd6, hk6, hr6⟩
        obtain ⟨h1, h2⟩ := wr_then HXA.out HK5.out HR5.out hk6 hr6
        have H1 := hid h1
        have H2 := hid h2
        have HD6 := hid hd6
        clear hk6 hr6 h1 h2 hd6
        by_cases hy : (flushF d5).1 = 0
        · have hF4 := hid (hF3.out.trans (if_neg (by simpa using hy)))
          rw [hy]
          generalize (flushF d5).2 = d6 at HD6 hF4
          have hrd6 := hid (Rd.carry0 HV.out H1.out.size fun hn k hk hl => H1.out.block k (HVB.out hn k hk) hl)
          clear hy hF3
          go_wp2_with fail
          refine (lay_any w6 g ρ2 (N + 3) d6 HD6.out (by omega) n HN.out 0 (by omega) _ data hrd6.out (by omega)).mono ?_
          rintro e w7 ⟨rfl, ρ3, hd7, hk7, hr7⟩
          obtain ⟨h3, h4⟩ := wr_then (Ext.refl _) H1.out H2.out hk7 hr7
          have H3 := hid h3
          have H4 := hid h4
          have HD7 := hid hd7
          clear hk7 hr7 h3 h4 hd7
          go_wp2_with fail
          go_ret
          exact ⟨by rw [hF4.out]; rfl, ρ3, by rw [hF4.out]; exact HD7.out, H3.out, H4.out⟩
        · have hF4 := hid (hF3.out.trans (if_pos (by simpa using hy)))
          generalize flushF d5 = Y at HD6 hF4 hy
          obtain ⟨y, d6⟩ := Y
          dsimp only at HD6 hy
          clear hF3
          go_wp2_with fail
          go_ret
          exact ⟨by rw [hF4.out]; rfl, ρ2, by rw [hF4.out]; exact HD6.out.mono (by omega), H1.out, H2.out⟩
      · have hF3 := hid (hF2.out.trans (if_pos (by simpa using hx)))
        generalize writeF d (n + 1) zb = X at hd5 hF3 hx
        obtain ⟨x, d5⟩ := X
        dsimp only at hd5 hx
        have HD5 := hid hd5
        obtain ⟨h1, h2⟩ := wr_then hxa hk5 hr5 (Keep.refl _ _) (fun k h => .inl h)
        have H1 := hid h1
        have H2 := hid h2
        clear hd5 hk5 hr5 h1 h2 hF hF2 hxa
        go_wp2_with fail
        go_ret
        exact ⟨by rw [hF3.out]; rfl, ρ1, by rw [hF3.out]; exact HD5.out.mono (by omega), H1.out, H2.out⟩
  · have hF := hid (show formatF d n data = (wrongF d n, d) by unfold formatF; rw [if_pos (by simpa using hw)])
    generalize wrongF d n = e at hw hF
    go_wp2_with fail
    go_ret
    exact ⟨by rw [hF.out]; rfl, ρ, by rw [hF.out]; exact H.out.mono (by omega), Keep.refl _ _, fun k h => .inl h⟩
end Go.Proofs.Ytgbiffpnfpdcoaa
