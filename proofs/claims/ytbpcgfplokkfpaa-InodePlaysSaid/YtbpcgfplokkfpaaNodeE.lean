/- inode's Extend, walked. -/
import Derived.Test.YtbpcgfplokkfpaaNode
namespace Go.Proofs.Ytbpcgfplokkfpaa
open Go.RowKit
set_option linter.unusedVariables false
set_option linter.unusedSimpArgs false

/-- nothing is held by the nil slice alone -/
def NilIf (L : List Int) (v : Value) : Prop := L = [] → v = .slice none 0 0

theorem set_row {w : World} {g o : Nat} {c : Array Value} {t : TypeId} {f : Nat × Nat} (h : w.heap[g]? = some (.cells c t f)) (u : Value) : (w.setCell ⟨g, o, none⟩ u).heap[g]? = some (.cells (c.setIfInBounds o u) t f) := by
  simp [World.setCell, Array.getElem?_modify, h]

/-- what a call that may turn a node leaves -/
def NodeTo (w w' : World) (g : Nat) (q : Option Nat) (s : Int) (L : List Int) : Prop :=
  ∃ q', NodeAt w' g q' s L ∧ Keep (fun k => k ≠ g) w w' ∧ (q' = q ∨ ∀ k, q' = some k → w.heap.size ≤ k)

def ExtEnd (w : World) (g : Nat) (q : Option Nat) (s n : Int) (L : List Int) (ls : List Run) (e : Ending) (w' : World) : Prop :=
  e = .returned (.int .i64 (extF s n ls)) ∧ NodeTo w w' g q (if extF s n ls = 0 then s + n else s) (if extF s n ls = 0 then L ++ expand ls else L)
theorem ExtEnd.bad {w w' : World} {g : Nat} {q : Option Nat} {s n c : Int} {L : List Int} {ls : List Run} (hE : extF s n ls = c) (hc : c ≠ 0) (h : NodeAt w g q s L) (hx : Ext w w') : ExtEnd w g q s n L ls (.returned (.int .i64 c)) w' := by
  subst hE
  exact ⟨rfl, by rw [if_neg hc, if_neg hc]; exact ⟨q, h.ext hx, hx.keep _, .inl rfl⟩⟩
theorem ExtEnd.good {w w' : World} {g : Nat} {q : Option Nat} {s n : Int} {L : List Int} {ls : List Run} (hE : extF s n ls = 0) (h : NodeTo w w' g q (s + n) (L ++ expand ls)) : ExtEnd w g q s n L ls (.returned (.int .i64 0)) w' := by
  refine ⟨by rw [hE], ?_⟩
  rw [if_pos hE, if_pos hE]
  exact h

theorem extF_bad {s n : Int} {ls : List Run} (h : (needF s n).2 ≠ 0) : extF s n ls = (needF s n).2 := by unfold extF; rw [if_pos h]
theorem extF_go {s n : Int} {ls : List Run} (h : (needF s n).2 = 0) : extF s n ls = if extOk ls (needF s n).1 then 0 else 1 := by unfold extF; rw [if_neg (by simpa using h)]

theorem expand_take_succ (ls : List Run) (i : Nat) (h : i < ls.length) : expand (ls.take (i + 1)) = expand (ls.take i) ++ expand [ls[i]] := by
  rw [List.take_succ_eq_append_getElem h, expand_append]

set_option maxRecDepth 100000 in
set_option maxHeartbeats 2000000 in
theorem nodeExtend_any (w : World) (g : Nat) (q : Option Nat) (s n : Int) (L : List Int) (h : NodeAt w g q s L) (ho : NodeOk s L) (hn : -9223372036854775808 ≤ n ∧ n ≤ 9223372036854775807) (lv : Value) (ls : List Run) (hl : RdR w lv ls) (hls : ∀ r ∈ ls, RunOk r) :
    Calls Try.prog 41 #[.pointer (some ⟨g, 0, none⟩), .int .i64 n, lv] w (ExtEnd w g q s n L ls) := by
  have H := hid h
  have HO := hid ho
  have hs1 := ho.lo
  have hs2 := ho.hi
  have hl64 := ho.len64
  have HL := hid hl
  obtain ⟨la, lc, rfl, hlc1, hlc2⟩ := hl.slice
  have hNF : needF s n = needF s n := rfl
  obtain ⟨nd, er, hne⟩ : ∃ nd er, needF s n = (nd, er) := ⟨_, _, rfl⟩
  have HNE := hid hne
  have HE1 := hid (extF_bad (s := s) (n := n) (ls := ls))
  have HE2 := hid (extF_go (s := s) (n := n) (ls := ls))
  rw [hne] at HE1 HE2
  have hnd : er = 0 → 0 ≤ nd ∧ nd ≤ 64 ∧ 0 ≤ n ∧ n ≤ 32768 := by
    intro e0
    unfold needF at hne
    by_cases h1 : n < 0
    · rw [if_pos h1] at hne; simp at hne; omega
    rw [if_neg h1] at hne
    by_cases h2 : 32768 - s < n
    · rw [if_pos h2] at hne; simp at hne; omega
    rw [if_neg h2] at hne
    have b1 := nb_lo hs1
    have b2 := nb_mono (show s ≤ s + n by omega)
    have b3 := nb_hi (show s + n ≤ 32768 by omega)
    simp at hne
    omega
  have her : er = 0 ∨ er = 1 ∨ er = 60 := by
    unfold needF at hne
    by_cases h1 : n < 0
    · rw [if_pos h1] at hne; simp at hne; omega
    rw [if_neg h1] at hne
    by_cases h2 : 32768 - s < n
    · rw [if_pos h2] at hne; simp at hne; omega
    rw [if_neg h2] at hne; simp at hne; omega
  have HND := hid hnd
  clear hne hnd hNF h ho hl
  by_cases he : er = 0
  · subst he
    obtain ⟨n1, n2, n3, n4⟩ := HND.out rfl
    have HE3 := hid (HE2.out rfl)
    clear HE2 HE1 HND her
    go_enter Try.func41, Try.ntmps41
    go_wp2_with (first | (go_at_call 40; refine (nodeNeed_any w g q s n L H.out ⟨hs1, hs2⟩ hn).mono ?_; rw [HNE.out]; rintro e w1 ⟨rfl, hb1⟩; have hx1 := Ext.of hb1; clear hb1) | (go_at_call 45; refine (nodeRuns_any _ g q s L (H.out.ext hx1) (by omega)).mono ?_; rintro e w2 ⟨v2, rfl, ho2, hn2, hb2⟩; have hx2 := Ext.of hb2; clear hb2))
    have HO2 := hid ho2
    have HN2 : Hid (NilIf L v2) := hid hn2
    clear hn2 ho2
    have hX12 := hx1.trans hx2
    have hb1s := hx1.size
    have hb2s := hx2.size
    go_loopw [7, 9, 25] (fun u7 u9 u25 wr => ∃ i : Nat, ∃ ne : Int, i ≤ ls.length ∧ u25 = .int .i64 i ∧ u7 = .int .i64 ne ∧ 0 ≤ ne ∧ ne ≤ nd ∧ extOk ls nd = extOk (ls.drop i) ne ∧ (∀ r ∈ ls.take i, 0 ≤ r.1 ∧ 1 ≤ r.2 ∧ r.1 + r.2 ≤ 512) ∧ ((expand (ls.take i)).length : Int) = nd - ne ∧ OwnR wr w1.heap.size u9 (whole (L ++ expand (ls.take i))) ∧ NilIf (L ++ expand (ls.take i)) u9 ∧ Ext w wr ∧ Ext w1 wr) (fun _ _ i _ => ls.length - (intOf i).toNat)
    case atStart => exact ⟨0, nd, by omega, rfl, rfl, by omega, by omega, rfl, by simp, by simp [expand], by simpa [expand] using HO2.out, by simpa [expand] using HN2.out, hX12, hx2⟩
    case round =>
      obtain ⟨i, ne, hi, rfl, rfl, hne0, hne1, hok, hin, hlen, hown, hnil, hxr, hx1r⟩ := hrel
      have HNIL := hid hnil
      clear hnil
      have HOK := hid hok
      have HOWN := hid hown
      have hlen2 : (expand (ls.take i)).length ≤ 64 := by omega
      have HLEN := hid hlen
      have HIN := hid hin
      obtain ⟨a9, c9, rfl⟩ := hown.rd.slice.imp fun a h => h.imp fun c h => h.1
      have hwin : ∀ b ∈ L ++ expand (ls.take i), 0 ≤ b ∧ b < 512 := by
        intro b hb
        rcases List.mem_append.1 hb with hb | hb
        · exact HO.out.blk b hb
        · obtain ⟨r, hr, h4, h5⟩ := mem_expand.1 hb
          have := hin r hr
          omega
      have HW := hid (whole_in hwin)
      have hwl := whole_len (L ++ expand (ls.take i))
      rw [List.length_append] at hwl
      clear hok hown hlen hin hwin
      by_cases hlt : i < ls.length
      · obtain ⟨gl, ol, cl, e, hgl, c0, c1⟩ := (HL.out.ext hxr).at i hlt
        simp only [Value.slice.injEq] at e
        obtain ⟨rfl, -, rfl⟩ := e
        have hro := hls _ (List.getElem_mem hlt)
        have hex := expand_take_succ ls i hlt
        have hdr := List.drop_eq_getElem_cons hlt
        have htk := List.take_succ_eq_append_getElem hlt
        generalize ls[i] = r at c0 c1 hro hex hdr htk
        obtain ⟨rf, rl⟩ := r
        obtain ⟨⟨ro1, ro2⟩, ro3, ro4⟩ := hro
        dsimp only at c0 c1 ro1 ro2 ro3 ro4
        have HEX := hid hex
        have HDR := hid hdr
        have HTK := hid htk
        clear hex hdr htk
        by_cases hbad : badRun (rf, rl) ne = true
        · have hfin : extF s n ls = 1 := by
            have h1 := HE3.out
            rw [HOK.out, HDR.out] at h1
            simp only [extOk, hbad, Bool.not_true, Bool.false_and] at h1
            simpa using h1
          have HF := hid hfin
          clear hfin
          simp only [badRun, decide_eq_true_eq] at hbad
          have hb5 : rf < 0 ∨ (0 ≤ rf ∧ 512 ≤ rf) ∨ (0 ≤ rf ∧ rf < 512 ∧ rl < 1) ∨ (0 ≤ rf ∧ rf < 512 ∧ 1 ≤ rl ∧ 512 - rf < rl) ∨ (0 ≤ rf ∧ rf < 512 ∧ 1 ≤ rl ∧ rl ≤ 512 - rf ∧ ne < rl) := by omega
          clear hbad
          rcases hb5 with h1 | ⟨h1, h2⟩ | ⟨h1, h2, h3⟩ | ⟨h1, h2, h3, h4⟩ | ⟨h1, h2, h3, h4, h5⟩
          all_goals
            go_wp2_with fail
            go_ret
            exact ExtEnd.bad HF.out (by decide) H.out (by (· repeat (first | (with_reducible assumption) | exact Ext.refl _ | refine Ext.alloc ?_ _ | refine Ext.drew ?_ | refine Ext.drewN ?_ _ | (apply Ext.snart; (with_reducible assumption)))))
        · have hok2 : extOk (ls.drop i) ne = extOk (ls.drop (i + 1)) (ne - rl) := by
            rw [HDR.out]
            simp [extOk, hbad]
          have HOK2 := hid (HOK.out.trans hok2)
          clear hok2
          simp only [badRun, Bool.not_eq_true, decide_eq_false_iff_not] at hbad
          have h1 : 0 ≤ rf := by omega
          have h2 : rf < 512 := by omega
          have h3 : 1 ≤ rl := by omega
          have h4 : rl ≤ 512 - rf := by omega
          have h5 : rl ≤ ne := by omega
          clear hbad
          have HPUT := hid (whole_run (L ++ expand (ls.take i)) rf rl.toNat (by omega))
          have hrl : ((rl.toNat : Nat) : Int) = rl := by omega
          rw [hrl, List.append_assoc, ← HEX.out] at HPUT
          have hwl2 : (whole (L ++ expand (ls.take i))).length ≤ 1000000 := by omega
          have HWB := hid (fun x (hx : x ∈ whole (L ++ expand (ls.take i))) => show (-1000000 ≤ x.1 ∧ x.1 ≤ 1000000) ∧ -1000000 ≤ x.2 ∧ x.2 ≤ 1000000 by have := HW.out x hx; omega)
          have hexl : (expand [(rf, rl)]).length = rl.toNat := expand_one_len rf rl
          have HXL := hid hexl
          clear hrl hexl
          generalize whole (L ++ expand (ls.take i)) = X at *
          generalize hY : whole (L ++ expand (ls.take (i + 1))) = Y at *
          have HY := hid hY
          clear hY
          have hbr := hx1r.size
          go_wp2_with ((go_at_call 66; go_must (refine (put_any _ w1.heap.size _ X (rf, rl) (HOWN.out.ext ((Ext.refl wr).alloc _)) (by simp; omega) (by omega) HWB.out ⟨⟨by omega, by omega⟩, by dsimp only; omega, by dsimp only; omega⟩).mono ?_; rw [← HPUT.out]; rintro e w5 ⟨v5, rfl, k1, k4, k6⟩)))
          go_roundw
          case rel =>
            have hrow : ∀ k, (Value.slice a9 X.length c9).ownBlock = some k → w1.heap.size ≤ k := fun k hk => (HOWN.out.lt k hk).1
            refine ⟨i + 1, ne - rl, by omega, by go_num, rfl, by omega, by omega, HOK2.out, fun r hr => ?_, ?_, by rw [HY.out]; exact k1, fun e => absurd (congrArg List.length e) (by rw [HEX.out, List.length_append, List.length_append, HXL.out, List.length_nil]; omega), (hxr.alloc _).grown k4 (fun k hk => by have := hrow k hk; omega), (hx1r.alloc _).grown k4 hrow⟩
            · rw [HTK.out] at hr
              rcases List.mem_append.1 hr with hr | hr
              · exact HIN.out r hr
              · obtain rfl := List.mem_singleton.1 hr
                dsimp only; omega
            · rw [HEX.out, List.length_append, HXL.out]
              have := HLEN.out
              omega
          case measure => simp [intOf]; omega
      · obtain rfl : i = ls.length := by omega
        have hfin := HE3.out
        rw [HOK.out, List.drop_length] at hfin
        simp only [extOk, decide_eq_true_eq] at hfin
        have HF := hid hfin
        clear hfin hlt hi
        have HT := hid (show ls.take ls.length = ls from List.take_length)
        rw [HT.out] at HOWN HNIL
        by_cases hne : ne = 0
        · subst hne
          obtain ⟨na, nc, d0, d1, -, e0, e1, -, -⟩ := (H.out.ext hxr).cells
          have hgw := H.out.lt
          have hwr := hxr.size
          have hsn : -9223372036854775808 ≤ s + n ∧ s + n ≤ 9223372036854775807 := by omega
          go_wp2_with fail
          go_ret
          obtain ⟨vr, hb, -⟩ := H.out.ext hxr
          have hlt := fun k hk => HOWN.out.lt k hk
          have hkeep : Keep (fun k => k ≠ g) wr ((wr.setCell ⟨g, 0, none⟩ (.int .i64 (s + n))).setCell ⟨g, 1, none⟩ (Value.slice a9 (whole (L ++ expand ls)).length c9)) := ((Keep.refl _ wr).setCell (by simp) _).setCell (by simp) _
          refine ExtEnd.good (by rw [HF.out]; simp) ⟨_, ⟨_, by rw [set_row (set_row hb _) _]; rfl, HOWN.out.rd.keep hkeep (fun _ k hk => by have := hlt k hk; omega), rfl, fun e => by have := hlt g e; omega, fun k hk => by have := hlt k hk; have := hkeep.size; omega, fun e => HNIL.out e⟩, (hxr.keep _).trans hkeep, .inr fun k hk => by have := hlt k hk; omega⟩
        · have hne' : ((ne : Int) != 0) = true := by simpa using hne
          go_wp2_with fail
          go_ret
          exact ExtEnd.bad (by rw [HF.out, if_neg hne]) (by decide) H.out (by (· repeat (first | (with_reducible assumption) | exact Ext.refl _ | refine Ext.alloc ?_ _ | refine Ext.drew ?_ | refine Ext.drewN ?_ _ | (apply Ext.snart; (with_reducible assumption)))))
  · go_enter Try.func41, Try.ntmps41
    go_wp2_with (first | (go_at_call 40; refine (nodeNeed_any w g q s n L H.out ⟨hs1, hs2⟩ hn).mono ?_; rw [HNE.out]; rintro e w1 ⟨rfl, hb1⟩; have hx1 := Ext.of hb1; clear hb1))
    go_ret
    exact ExtEnd.bad (HE1.out he) he H.out hx1
end Go.Proofs.Ytbpcgfplokkfpaa
