/- The walks of codec's functions that read numbers, integers, texts, four bytes. -/
import Derived.Test.YthobhkmphjnlaaaPut
import Derived.Test.YthobhkmphjnlaaaGetA
import Derived.Deep.QuietTactic
import Derived.BigQuiet
namespace Go.Proofs.Ythobhkmphjnlaaa
open Go.RowKit
set_option linter.unusedVariables false
set_option linter.unusedSimpArgs false

set_option maxRecDepth 100000 in
set_option maxHeartbeats 400000 in
theorem Int_any (w : World) (v : Value) (l : List UInt8) (hv : RdB w v l) :
    Calls Try.prog 49 #[v] w fun e w' => e = .returned (.tuple #[.int .i64 (unzig (uintF l).1), .int .i64 (uintF l).2.1, .int .i64 (uintF l).2.2]) ∧ w = w' := by
  have hfc := uintF_facts l
  go_enter Try.func49, Try.ntmps49
  go_wp2_with fail
  refine (Uint_any w v l hv).mono ?_
  rintro e w1 ⟨rfl, rfl⟩
  generalize hu : uintF l = r at hfc ⊢
  obtain ⟨u, k, er⟩ := r
  obtain ⟨f1, f2, f3, f4⟩ := hfc
  dsimp only at f1 f2 f3 f4 ⊢
  have HU := hid hu
  clear f4 hu
  go_wp2
  go_ret3
  rw [HU.out]
  exact ⟨ret3 (unzig_bits u f1) rfl rfl, rfl⟩

set_option maxRecDepth 100000 in
set_option maxHeartbeats 400000 in
theorem Text_any (w : World) (v : Value) (l : List UInt8) (most : Int) (hm1 : -9223372036854775808 ≤ most) (hm2 : most ≤ 9223372036854775807) (hv : RdB w v l) :
    Calls Try.prog 89 #[v, .int .i64 most] w fun e w' => e = .returned (.tuple #[.string ⟨(textF l most).1.toArray⟩, .int .i64 (textF l most).2.1, .int .i64 (textF l most).2.2]) ∧ w = w' := by
  have hfc := uintF_facts l
  have HT := hid (show textF l most = textF l most from rfl)
  obtain ⟨a, cap, rfl, h1, h2, h3, h4⟩ := id hv
  have h2 : cap ≤ 9223372036854775807 := by unfold maxLen at h2; omega
  have H4 := hid h4
  clear h4 h3
  go_enter Try.func89, Try.ntmps89
  go_wp2_with fail
  refine (Uint_any w _ l hv).mono ?_
  rintro e w1 ⟨rfl, rfl⟩
  generalize hu : uintF l = r at hfc ⊢
  obtain ⟨u, k, er⟩ := r
  obtain ⟨f1, f2, f3, f4⟩ := hfc
  dsimp only at f1 f2 f3 f4 ⊢
  have HU := hid hu
  clear hu
  have HF : Hid (textF l most = if er ≠ 0 then ([], 0, er) else if most < 0 ∨ most < (u : Int) then ([], 0, 12) else if l.length - k < u then ([], 0, 10) else ((l.drop k).take u, k + u, 0)) := by
    show _ = _
    rw [textF, HU.out]
  clear HU HT
  by_cases he : er = 0
  · subst he
    by_cases hneg : most < 0
    · go_wp2
      go_ret3
      refine ⟨?_, rfl⟩
      rw [HF.out, if_neg (by simp), if_pos (.inl hneg)]
      rfl
    · by_cases hlong : most < u
      · go_wp2
        go_ret3
        refine ⟨?_, rfl⟩
        rw [HF.out, if_neg (by simp), if_pos (.inr hlong)]
        rfl
      · by_cases hsh : l.length - k < u
        · go_wp2
          go_ret3
          refine ⟨?_, rfl⟩
          rw [HF.out, if_neg (by simp), if_neg (by omega), if_pos hsh]
          rfl
        · have hsub := RdB.cut hv k (k + u) (by omega) (by omega)
          rw [show k + u - k = u from by omega] at hsub
          have hstr := run_strB hsub
          go_wp2_with ((with_reducible refine at_slice ?_); go_must (refine wl_slice_lh rfl rfl Try.underlying54 sizeU8 rfl rfl rfl k (k + u) rfl ?_ ?_ ?_ ?_; omega; omega; omega; rw [show k + u - k = u from by omega]))
          go_ret3
          refine ⟨?_, rfl⟩
          rw [HF.out, if_neg (by simp), if_neg (by omega), if_neg hsh]
          rfl
  · rcases f4 with f4 | ⟨f4, rfl, rfl⟩
    · exact absurd f4.1 he
    · rcases f4 with rfl | rfl
      all_goals
        go_wp2
        go_ret3
        refine ⟨?_, rfl⟩
        rw [HF.out]
        rfl

set_option maxRecDepth 100000 in
set_option maxHeartbeats 400000 in
theorem U32_any (w : World) (v : Value) (l : List UInt8) (hv : RdB w v l) :
    Calls Try.prog 86 #[v] w fun e w' => e = .returned (.tuple #[.int .u32 (u32F l).1, .int .i64 (u32F l).2]) ∧ Below w.heap.size w w' := by
  obtain ⟨ad, cap, rfl, h1, h2, h3, h4⟩ := id hv
  have h2 : cap ≤ 9223372036854775807 := by unfold maxLen at h2; omega
  by_cases h : l.length < 4
  · clear h4
    go_enter Try.func86, Try.ntmps86
    go_wp2
    go_ret2
    refine ⟨?_, Below.refl _ _⟩
    rw [show u32F l = (0, 10) from by
      match l, h with
      | [], _ => rfl
      | [_], _ => rfl
      | [_, _], _ => rfl
      | [_, _, _], _ => rfl]
    rfl
  · obtain ⟨a, b, c, d, r, rfl⟩ : ∃ a b c d r, l = a :: b :: c :: d :: r := by
      clear hv h1 h3 h4
      match l, h with
      | [], h => exact absurd (by simp) h
      | [_], h => exact absurd (by simp) h
      | [_, _], h => exact absurd (by simp) h
      | [_, _, _], h => exact absurd (by simp) h
      | a :: b :: c :: d :: r, _ => exact ⟨a, b, c, d, r, rfl⟩
    obtain ⟨g, o, rfl, hg, hc⟩ := h4 (by simp)
    have c0 : w.cell? ⟨g, o, none⟩ = some (.int .u8 (a.toNat : Int)) := by simpa [bvs, bv] using hc 0 (by simp)
    have c1 : w.cell? ⟨g, o + 1, none⟩ = some (.int .u8 (b.toNat : Int)) := by simpa [bvs, bv] using hc 1 (by simp)
    have c2 : w.cell? ⟨g, o + 2, none⟩ = some (.int .u8 (c.toNat : Int)) := by simpa [bvs, bv] using hc 2 (by simp)
    have c3 : w.cell? ⟨g, o + 3, none⟩ = some (.int .u8 (d.toNat : Int)) := by simpa [bvs, bv] using hc 3 (by simp)
    have ha := a.toNat_lt
    have hb := b.toNat_lt
    have hc' := c.toNat_lt
    have hd := d.toNat_lt
    have hn1 : (0 : Int) < ((a :: b :: c :: d :: r).length : Int) := by simp; omega
    have hn2 : (1 : Int) < ((a :: b :: c :: d :: r).length : Int) := by simp; omega
    have hn3 : (2 : Int) < ((a :: b :: c :: d :: r).length : Int) := by simp; omega
    have hn4 : (3 : Int) < ((a :: b :: c :: d :: r).length : Int) := by simp; omega
    clear hc hv h3
    generalize hL : (a :: b :: c :: d :: r).length = L at *
    have HL := hid hL
    clear hL
    go_enter Try.func86, Try.ntmps86
    go_wp2
    go_quiet (fail)
    go_wp2
    go_ret2
    refine ⟨?_, below_drewN (Below.refl _ _) nq⟩
    have hE := u32_bits a.toNat b.toNat c.toNat d.toNat ha hb hc' hd
    show Ending.returned (.tuple #[.int .u32 _, .int .i64 0]) = _
    rw [hE]
    rfl

end Go.Proofs.Ythobhkmphjnlaaa
