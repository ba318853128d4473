/- AllocReads, walked. -/
import Derived.Test.YtbpcgfplokkfpaaAlK
import Derived.Deep.QuietTactic
import Derived.BigQuiet
namespace Go.Proofs.Ytbpcgfplokkfpaa
open Go.RowKit
set_option linter.unusedVariables false
set_option linter.unusedSimpArgs false

theorem own_made (w : World) : OwnB (w.alloc (.cells #[] 5)) w.heap.size (.slice (some ⟨w.heap.size, 0, none⟩) 0 0) [] := World.ownsRow_made w #[] 0 (Nat.le_refl _) (by simp [maxLen]) rfl
theorem MReadEnd.no {w w' : World} {l : List UInt8} {e : Ending} (h : MReadEnd w l e w') (hr : readM l = none) : e = .returned (.tuple #[.pointer none, .int .i64 52]) ∧ Ext w w' := by
  rcases h with ⟨now, g, h1, -⟩ | ⟨-, h2, h3⟩
  · rw [hr] at h1; cases h1
  · exact ⟨h2, h3⟩
theorem MReadEnd.yes {w w' : World} {l : List UInt8} {e : Ending} {now : List Bool} (h : MReadEnd w l e w') (hr : readM l = some now) : ∃ g, e = .returned (.tuple #[.pointer (some ⟨g, 0, none⟩), .int .i64 0]) ∧ MapAt (fun k => w.heap.size ≤ k ∧ k < w'.heap.size) w' g now now ∧ Ext w w' := by
  rcases h with ⟨now', g, h1, h2, h3, h4⟩ | ⟨h1, -⟩
  · rw [hr] at h1; cases h1; exact ⟨g, h2, h3, h4⟩
  · rw [hr] at h1; cases h1
theorem RMReadEnd.no {w w' : World} {l : List UInt8} {e : Ending} (h : RMReadEnd w l e w') (hr : readM l = none) : e = .returned (.tuple #[.pointer none, .int .i64 52]) ∧ Ext w w' := by
  rcases h with ⟨now, g, h1, -⟩ | ⟨-, h2, h3⟩
  · rw [hr] at h1; cases h1
  · exact ⟨h2, h3⟩
theorem RMReadEnd.yes {w w' : World} {l : List UInt8} {e : Ending} {now : List Bool} (h : RMReadEnd w l e w') (hr : readM l = some now) : ∃ g, e = .returned (.tuple #[.pointer (some ⟨g, 0, none⟩), .int .i64 0]) ∧ RMapAt (fun k => w.heap.size ≤ k ∧ k < w'.heap.size) w' g now now ∧ Ext w w' := by
  rcases h with ⟨now', g, h1, h2, h3, h4⟩ | ⟨h1, -⟩
  · rw [hr] at h1; cases h1; exact ⟨g, h2, h3, h4⟩
  · rw [hr] at h1; cases h1
theorem ownB_capAt {w : World} {base n c : Nat} {a : Option Addr} {l : List UInt8} (h : OwnB w base (.slice a n c) l) : n ≤ c ∧ c ≤ 9223372036854775807 := by
  obtain ⟨a', c', e, h1, h2, -⟩ := rdB_own h
  simp only [Value.slice.injEq] at e
  obtain ⟨-, rfl, rfl⟩ := e
  exact ⟨by simpa using h1, by unfold maxLen at h2; omega⟩
theorem ownB_lastAt {w : World} {base g n cap : Nat} {l : List UInt8} {b : UInt8} (h : OwnB w base (.slice (some ⟨g, 0, none⟩) n cap) (l ++ [b])) : w.cell? ⟨g, l.length, none⟩ = some (.int .u8 (b.toNat : Int)) := by
  obtain ⟨a, c, e, _, _, _, h4⟩ := rdB_own h
  simp only [Value.slice.injEq] at e
  obtain ⟨rfl, rfl, rfl⟩ := e
  obtain ⟨g', o, e, hg, hc⟩ := h4 (by simp)
  cases e
  have := hc l.length (by simp)
  rw [Nat.zero_add] at this
  rw [this]
  simp [bvs, bv]
theorem rdB_headI {w : World} {g n cap : Nat} {l : List UInt8} (m : List UInt8) (h : RdB w (.slice (some ⟨g, 0, none⟩) n cap) (l ++ m)) (hn : n = l.length + m.length) : RdB w (.slice (some ⟨g, 0, none⟩) l.length cap) l := by
  have h' : RdB w (.slice (some ⟨g, 0, none⟩) (l ++ m).length cap) (l ++ m) := by rw [List.length_append, ← hn]; exact h
  have := h'.cut 0 l.length (by omega) (by simp)
  simpa [cutAt, Addr.add] using this

set_option maxRecDepth 100000 in
set_option maxHeartbeats 4000000 in
theorem allocReads_walk (w : World) (v : Value) (B : List UInt8) (hv : RdB w v B) (sz : B.length ≤ 140737488351232) :
    Calls Try.prog 15 #[v] w fun e w' => e = .returned (.bool true) ∧ Below w.heap.size w w' := by
  have HV := hid hv
  obtain ⟨a, cap, rfl, hc1, hc2, -, -⟩ := id hv
  have hcI : cap ≤ 9223372036854775807 := by unfold maxLen at hc2; omega
  clear hv hc2
  have i1 : (B.length : Int) < ((B.length + 1 : Nat) : Int) := by omega
  have i2 : (0 : Int) ≤ (B.length : Int) := by omega
  by_cases hn : readM B = none
  · have HN := hid hn
    clear hn
    go_enter Try.func15, Try.ntmps15
    go_wp2_with (first | (go_at_call 21; go_must (refine (awake5_any _).mono ?_; rintro e w0 ⟨rfl, hb'⟩; have hx' := Ext.of hb'; have HX0 := hid hx'; have hs0 := hx'.size; have HV0 := hid (HV.out.ext hx'); clear hb' hx')) | (have KEY := HO1; at_builtin; go_must (refine wl_appB rfl _ _ _ rfl w0.heap.size _ B rfl (appB_own (HO1.out.ext ((Ext.refl w').alloc (.cells #[.int .u8 7] 5)))) _ [7] rfl (src_blk w' _ [7] _ rfl rfl) (by simp <;> omega) (by simp <;> omega) ?_; intro v2 w2 m1 m2 m3 m4 m5 m6; have HO2 := hid (m2 (by simp)); have HXB := hid (Ext.trans HX0.out (Ext.trans HX1.out ((Ext.refl w').alloc (.cells #[.int .u8 7] 5)))); have HXC := hid (Ext.step HXB.out m5 hs0); clear m1 m2 m3 m4 m5 m6; obtain ⟨g2, cap2, e2, hg2, hg2'⟩ := ownB_block HO2.out (by simp); obtain rfl := e2; have hl2 : (B ++ [7]).length = B.length + 1 := (by simp); rw [hl2] at HO2 ⊢; have hcp := ownB_capAt HO2.out; have hcp1 : B.length ≤ cap2 := (Nat.le_of_succ_le hcp.1); have hcp2 := hcp.2)) | (at_builtin; go_must (refine wl_appB rfl _ _ _ rfl w0.heap.size (.slice (some ⟨w0.heap.size, 0, none⟩) 0 0) [] rfl (appB_own (own_made w0)) _ B rfl (src_B (HV0.out.ext ((Ext.refl _).alloc _))) (by simp <;> omega) (by simp) ?_; intro v1 w' k1 k2 k3 k4 k5 k6; have HO1 := k3 (own_made w0); rw [List.nil_append] at HO1; have HO1 := hid HO1; have HX1 := hid (show Ext w0 w' from Ext.step ((Ext.refl w0).alloc _) k5 (Nat.le_refl _)); have hs1 := HX1.out.size; clear k1 k2 k3 k4 k5 k6)) | (go_at_call 52; go_must (refine (MRead_any _ _ B (rdB_headI [7] (rdB_own HO2.out) rfl) (by omega)).mono ?_; intro e w3 he; obtain ⟨rfl, hx3⟩ := MReadEnd.no he HN.out; clear he)) | (go_at_call 53; go_must (refine (RMRead_any _ _ B (HV.out.ext (HXC.out.trans hx3)) (by omega)).mono ?_; intro e w4 he; obtain ⟨rfl, hx4⟩ := RMReadEnd.no he HN.out; clear he; have hcv1 := (fun n => run_strB ((rdB_headI [7] (rdB_own HO2.out) rfl).ext (Ext.drewN (hx3.trans hx4) n))); have hcv2 := (fun n => run_strB (HV.out.ext (Ext.drewN (HXC.out.trans (hx3.trans hx4)) n))); have c7 := (hx3.trans hx4).cellS (ownB_lastAt HO2.out))))
    go_quiet (fail)
    go_wp2_with fail
    go_ret
    exact ⟨rfl, by show Ext _ _; exact (HXC.out.trans (hx3.trans hx4)).drewN nq⟩
  · obtain ⟨nw, hrn⟩ := Option.ne_none_iff_exists'.1 hn
    have HN := hid hrn
    clear hn hrn
    go_enter Try.func15, Try.ntmps15
    go_wp2_with (first | (go_at_call 21; go_must (refine (awake5_any _).mono ?_; rintro e w0 ⟨rfl, hb'⟩; have hx' := Ext.of hb'; have HX0 := hid hx'; have hs0 := hx'.size; have HV0 := hid (HV.out.ext hx'); clear hb' hx')) | (have KEY := HO1; at_builtin; go_must (refine wl_appB rfl _ _ _ rfl w0.heap.size _ B rfl (appB_own (HO1.out.ext ((Ext.refl w').alloc (.cells #[.int .u8 7] 5)))) _ [7] rfl (src_blk w' _ [7] _ rfl rfl) (by simp <;> omega) (by simp <;> omega) ?_; intro v2 w2 m1 m2 m3 m4 m5 m6; have HO2 := hid (m2 (by simp)); have HXB := hid (Ext.trans HX0.out (Ext.trans HX1.out ((Ext.refl w').alloc (.cells #[.int .u8 7] 5)))); have HXC := hid (Ext.step HXB.out m5 hs0); clear m1 m2 m3 m4 m5 m6; obtain ⟨g2, cap2, e2, hg2, hg2'⟩ := ownB_block HO2.out (by simp); obtain rfl := e2; have hl2 : (B ++ [7]).length = B.length + 1 := (by simp); rw [hl2] at HO2 ⊢; have hcp := ownB_capAt HO2.out; have hcp1 : B.length ≤ cap2 := (Nat.le_of_succ_le hcp.1); have hcp2 := hcp.2)) | (at_builtin; go_must (refine wl_appB rfl _ _ _ rfl w0.heap.size (.slice (some ⟨w0.heap.size, 0, none⟩) 0 0) [] rfl (appB_own (own_made w0)) _ B rfl (src_B (HV0.out.ext ((Ext.refl _).alloc _))) (by simp <;> omega) (by simp) ?_; intro v1 w' k1 k2 k3 k4 k5 k6; have HO1 := k3 (own_made w0); rw [List.nil_append] at HO1; have HO1 := hid HO1; have HX1 := hid (show Ext w0 w' from Ext.step ((Ext.refl w0).alloc _) k5 (Nat.le_refl _)); have hs1 := HX1.out.size; clear k1 k2 k3 k4 k5 k6)) | (go_at_call 52; go_must (refine (MRead_any _ _ B (rdB_headI [7] (rdB_own HO2.out) rfl) (by omega)).mono ?_; intro e w3 he; obtain ⟨gn, rfl, HNA, hx3⟩ := MReadEnd.yes he HN.out; clear he; have HNA := hid HNA)) | (go_at_call 53; go_must (refine (RMRead_any _ _ B (HV.out.ext (HXC.out.trans hx3)) (by omega)).mono ?_; intro e w4 he; obtain ⟨gr, rfl, HRA, hx4⟩ := RMReadEnd.yes he HN.out; clear he; have HRA := hid HRA; have hcv1 := (fun n => run_strB ((rdB_headI [7] (rdB_own HO2.out) rfl).ext (Ext.drewN (hx3.trans hx4) n))); have hcv2 := (fun n => run_strB (HV.out.ext (Ext.drewN (HXC.out.trans (hx3.trans hx4)) n))); have c7 := (hx3.trans hx4).cellS (ownB_lastAt HO2.out))))
    go_quiet (fail)
    go_wp2_with (go_at_call 38; go_must (refine (asked5_any _ _ _ gn gr _ _ (HNA.out.ext (hx4.drewN nq)) (HRA.out.ext ((Ext.refl _).drewN nq))).mono ?_; rintro e w6 ⟨rfl, hb6⟩; have hx6 := Ext.of hb6; clear hb6))
    go_ret
    exact ⟨rfl, by show Ext _ _; exact Ext.trans ((HXC.out.trans (hx3.trans hx4)).drewN nq) hx6⟩
end Go.Proofs.Ytbpcgfplokkfpaa
