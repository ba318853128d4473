/- The walks of codec's functions that read numbers, integers, texts, four bytes. -/
import Derived.Test.YthmpikbbkoblfaaPut
import Derived.Deep.QuietTactic
import Derived.BigQuiet
namespace Go.Proofs.Ythmpikbbkoblfaa
open Go.RowKit
set_option linter.unusedVariables false
set_option linter.unusedSimpArgs false

theorem ret3 {k1 k2 k3 : IntKind} {a a' b b' c c' : Int} (h1 : a = a') (h2 : b = b') (h3 : c = c') : Ending.returned (.tuple #[.int k1 a, .int k2 b, .int k3 c]) = Ending.returned (.tuple #[.int k1 a', .int k2 b', .int k3 c']) := by
  rw [h1, h2, h3]

set_option maxRecDepth 100000 in
set_option maxHeartbeats 400000 in
theorem Uint_any (w : World) (v : Value) (l : List UInt8) (hv : RdB w v l) :
    Calls Try.prog 38 #[v] w fun e w' => e = .returned (.tuple #[.int .u64 (uintF l).1, .int .i64 (uintF l).2.1, .int .i64 (uintF l).2.2]) ∧ w = w' := by
  obtain ⟨a, cap, rfl, h1, h2, h3, h4⟩ := id hv
  have h2 : cap ≤ 9223372036854775807 := by unfold maxLen at h2; omega
  have H4 := hid h4
  clear h4 h3
  go_enter Try.func38, Try.ntmps38
  go_wp2
  go_loop [5, 8] (fun n i => ∃ k x m : Nat, k ≤ 10 ∧ k ≤ l.length ∧ i = .int .i64 k ∧ n = .int .u64 x ∧ uintF l = uintGo (10 - k) k m (l.drop k) ∧ (k < 10 → x = m ∧ m < 128 ^ k)) (fun _ i => 10 - (intOf i).toNat)
  case atStart => exact ⟨0, 0, 0, by omega, by omega, rfl, rfl, rfl, fun _ => ⟨rfl, by simp⟩⟩
  case round =>
    obtain ⟨k, x, m, hk, hkl, rfl, rfl, heq, hxm⟩ := hrel
    have HE := hid heq
    clear heq
    by_cases hlt : k < 10
    · obtain ⟨rfl, hm⟩ := hxm hlt
      have Hf := hid (show ∃ f, 10 - k = f + 1 from ⟨9 - k, by omega⟩)
      by_cases hl : k < l.length
      · obtain ⟨g, o, rfl, hg, hc⟩ := H4.out (by omega)
        have hck : w.cell? ⟨g, o + k, none⟩ = some (.int .u8 (l[k].toNat : Int)) := by rw [hc k (by omega), bvs_get l k hl]
        have Hd := hid (List.drop_eq_getElem_cons hl)
        clear hc
        generalize l[k] = c at hck Hd
        have hcb : c.toNat < 256 := c.toNat_lt
        have HF : Hid (uintF l = if 128 ≤ c.toNat then uintGo (9 - k) (k + 1) (x + c.toNat % 128 * 128 ^ k) (l.drop (k + 1)) else if (0 < k ∧ c.toNat = 0) ∨ (k = 9 ∧ 1 < c.toNat) then (0, 0, 11) else (x + c.toNat % 128 * 128 ^ k, k + 1, 0)) := by
          obtain ⟨f, hf⟩ := Hf.out
          show uintF l = _
          rw [HE.out, Hd.out, hf, show 9 - k = f from by omega]
          rfl
        by_cases hbig : 128 ≤ c.toNat
        · go_wp2
          go_round
          case rel =>
            have HF := HF.out
            rw [if_pos hbig] at HF
            have he : uintF l = uintGo (10 - (k + 1)) (k + 1) (x + c.toNat % 128 * 128 ^ k) (l.drop (k + 1)) := by rw [HF, show 10 - (k + 1) = 9 - k from by omega]
            by_cases h9 : k = 9
            · have hE : ∃ X : Nat, bits BinOp.or IntKind.u64 ↑x (IntKind.u64.wrap (IntKind.u64.wrap (bits BinOp.and IntKind.u8 (↑c.toNat) 127) * 2 ^ (7 * k))) = (X : Int) := bits_u64_nat _ _ _
              obtain ⟨X, hX⟩ := hE
              exact ⟨k + 1, X, x + c.toNat % 128 * 128 ^ k, by omega, by omega, by go_num, by rw [hX], he, fun h => absurd h (by omega)⟩
            · exact ⟨k + 1, _, x + c.toNat % 128 * 128 ^ k, by omega, by omega, by go_num, by rw [acc_step x k _ (by omega) hm hcb], he, fun _ => ⟨rfl, acc_lt _ _ _ hm⟩⟩
          case measure => simp [intOf]; omega
        · by_cases hz : (0 < k ∧ c.toNat = 0) ∨ (k = 9 ∧ 1 < c.toNat)
          · have HF2 : Hid (uintF l = (0, 0, 11)) := by show _ = _; rw [HF.out, if_neg hbig, if_pos hz]
            rcases hz with ⟨hz1, hz2⟩ | ⟨hz1, hz2⟩
            · clear hbig
              go_wp2
              go_ret3
              exact ⟨by rw [HF2.out]; rfl, rfl⟩
            · subst hz1
              go_wp2
              all_goals (go_ret3; exact ⟨by rw [HF2.out]; rfl, rfl⟩)
          · go_wp2
            all_goals go_ret3
            all_goals (refine ⟨?_, rfl⟩; rw [HF.out, if_neg hbig, if_neg hz]; exact ret3 (acc_step x k _ (by omega) hm hcb) (by dsimp only; omega) rfl)
      · obtain rfl : k = l.length := by omega
        go_wp2
        go_ret3
        refine ⟨?_, rfl⟩
        obtain ⟨f, hf⟩ := Hf.out
        rw [HE.out, hf, List.drop_length]; rfl
    · clear hxm
      obtain rfl : k = 10 := by omega
      go_wp2
      go_ret3
      refine ⟨?_, rfl⟩
      rw [HE.out]; rfl

set_option maxRecDepth 100000 in
set_option maxHeartbeats 400000 in
theorem Int_any (w : World) (v : Value) (l : List UInt8) (hv : RdB w v l) :
    Calls Try.prog 40 #[v] w fun e w' => e = .returned (.tuple #[.int .i64 (unzig (uintF l).1), .int .i64 (uintF l).2.1, .int .i64 (uintF l).2.2]) ∧ w = w' := by
  have hfc := uintF_facts l
  go_enter Try.func40, Try.ntmps40
  go_wp2_with fail
  refine (Uint_any w v l hv).mono ?_
  rintro e w1 ⟨rfl, rfl⟩
  generalize hu : uintF l = r at hfc ⊢
  obtain ⟨u, k, er⟩ := r
  obtain ⟨f1, f2, f3, f4⟩ := hfc
  dsimp only at f1 f2 f3 f4 ⊢
  have HU := hid hu
  clear f4 hu
  go_wp2
  go_ret3
  rw [HU.out]
  exact ⟨ret3 (unzig_bits u f1) rfl rfl, rfl⟩

set_option maxRecDepth 100000 in
set_option maxHeartbeats 400000 in
theorem Text_any (w : World) (v : Value) (l : List UInt8) (most : Int) (hm1 : -9223372036854775808 ≤ most) (hm2 : most ≤ 9223372036854775807) (hv : RdB w v l) :
    Calls Try.prog 42 #[v, .int .i64 most] w fun e w' => e = .returned (.tuple #[.string ⟨(textF l most).1.toArray⟩, .int .i64 (textF l most).2.1, .int .i64 (textF l most).2.2]) ∧ w = w' := by
  have hfc := uintF_facts l
  have HT := hid (show textF l most = textF l most from rfl)
  obtain ⟨a, cap, rfl, h1, h2, h3, h4⟩ := id hv
  have h2 : cap ≤ 9223372036854775807 := by unfold maxLen at h2; omega
  have H4 := hid h4
  clear h4 h3
  go_enter Try.func42, Try.ntmps42
  go_wp2_with fail
  refine (Uint_any w _ l hv).mono ?_
  rintro e w1 ⟨rfl, rfl⟩
  generalize hu : uintF l = r at hfc ⊢
  obtain ⟨u, k, er⟩ := r
  obtain ⟨f1, f2, f3, f4⟩ := hfc
  dsimp only at f1 f2 f3 f4 ⊢
  have HU := hid hu
  clear hu
  have HF : Hid (textF l most = if er ≠ 0 then ([], 0, er) else if most < 0 ∨ most < (u : Int) then ([], 0, 12) else if l.length - k < u then ([], 0, 10) else ((l.drop k).take u, k + u, 0)) := by
    show _ = _
    rw [textF, HU.out]
  clear HU HT
  by_cases he : er = 0
  · subst he
    by_cases hneg : most < 0
    · go_wp2
      go_ret3
      refine ⟨?_, rfl⟩
      rw [HF.out, if_neg (by simp), if_pos (.inl hneg)]
      rfl
    · by_cases hlong : most < u
      · go_wp2
        go_ret3
        refine ⟨?_, rfl⟩
        rw [HF.out, if_neg (by simp), if_pos (.inr hlong)]
        rfl
      · by_cases hsh : l.length - k < u
        · go_wp2
          go_ret3
          refine ⟨?_, rfl⟩
          rw [HF.out, if_neg (by simp), if_neg (by omega), if_pos hsh]
          rfl
        · have hsub := RdB.cut hv k (k + u) (by omega) (by omega)
          rw [show k + u - k = u from by omega] at hsub
          have hstr := run_strB hsub
          go_wp2_with ((with_reducible refine at_slice ?_); go_must (refine wl_slice_lh rfl rfl Try.underlying22 sizeU8 rfl rfl rfl k (k + u) rfl ?_ ?_ ?_ ?_; omega; omega; omega; rw [show k + u - k = u from by omega]))
          go_ret3
          refine ⟨?_, rfl⟩
          rw [HF.out, if_neg (by simp), if_neg (by omega), if_neg hsh]
          rfl
  · rcases f4 with f4 | ⟨f4, rfl, rfl⟩
    · exact absurd f4.1 he
    · rcases f4 with rfl | rfl
      all_goals
        go_wp2
        go_ret3
        refine ⟨?_, rfl⟩
        rw [HF.out]
        rfl

set_option maxRecDepth 100000 in
set_option maxHeartbeats 400000 in
theorem U32_any (w : World) (v : Value) (l : List UInt8) (hv : RdB w v l) :
    Calls Try.prog 44 #[v] w fun e w' => e = .returned (.tuple #[.int .u32 (u32F l).1, .int .i64 (u32F l).2]) ∧ Below w.heap.size w w' := by
  obtain ⟨ad, cap, rfl, h1, h2, h3, h4⟩ := id hv
  have h2 : cap ≤ 9223372036854775807 := by unfold maxLen at h2; omega
  by_cases h : l.length < 4
  · clear h4
    go_enter Try.func44, Try.ntmps44
    go_wp2
    go_ret2
    refine ⟨?_, Below.refl _ _⟩
    rw [show u32F l = (0, 10) from by
      match l, h with
      | [], _ => rfl
      | [_], _ => rfl
      | [_, _], _ => rfl
      | [_, _, _], _ => rfl]
    rfl
  · obtain ⟨a, b, c, d, r, rfl⟩ : ∃ a b c d r, l = a :: b :: c :: d :: r := by
      clear hv h1 h3 h4
      match l, h with
      | [], h => exact absurd (by simp) h
      | [_], h => exact absurd (by simp) h
      | [_, _], h => exact absurd (by simp) h
      | [_, _, _], h => exact absurd (by simp) h
      | a :: b :: c :: d :: r, _ => exact ⟨a, b, c, d, r, rfl⟩
    obtain ⟨g, o, rfl, hg, hc⟩ := h4 (by simp)
    have c0 : w.cell? ⟨g, o, none⟩ = some (.int .u8 (a.toNat : Int)) := by simpa [bvs, bv] using hc 0 (by simp)
    have c1 : w.cell? ⟨g, o + 1, none⟩ = some (.int .u8 (b.toNat : Int)) := by simpa [bvs, bv] using hc 1 (by simp)
    have c2 : w.cell? ⟨g, o + 2, none⟩ = some (.int .u8 (c.toNat : Int)) := by simpa [bvs, bv] using hc 2 (by simp)
    have c3 : w.cell? ⟨g, o + 3, none⟩ = some (.int .u8 (d.toNat : Int)) := by simpa [bvs, bv] using hc 3 (by simp)
    have ha := a.toNat_lt
    have hb := b.toNat_lt
    have hc' := c.toNat_lt
    have hd := d.toNat_lt
    have hn1 : (0 : Int) < ((a :: b :: c :: d :: r).length : Int) := by simp; omega
    have hn2 : (1 : Int) < ((a :: b :: c :: d :: r).length : Int) := by simp; omega
    have hn3 : (2 : Int) < ((a :: b :: c :: d :: r).length : Int) := by simp; omega
    have hn4 : (3 : Int) < ((a :: b :: c :: d :: r).length : Int) := by simp; omega
    clear hc hv h3
    generalize hL : (a :: b :: c :: d :: r).length = L at *
    have HL := hid hL
    clear hL
    go_enter Try.func44, Try.ntmps44
    go_wp2
    go_quiet (fail)
    go_wp2
    go_ret2
    refine ⟨?_, below_drewN (Below.refl _ _) nq⟩
    have hE := u32_bits a.toNat b.toNat c.toNat d.toNat ha hb hc' hd
    show Ending.returned (.tuple #[.int .u32 _, .int .i64 0]) = _
    rw [hE]
    rfl

end Go.Proofs.Ythmpikbbkoblfaa
