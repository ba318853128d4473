/- codec.PutBatch, walked. -/
import Derived.Test.YthobhkmphjnlaaaRCheck
import Derived.Test.YthobhkmphjnlaaaPut
import Derived.Deep.RegionHeld3
import Derived.Outline
namespace Go.Proofs.Ythobhkmphjnlaaa
open Go.RowKit
set_option linter.unusedVariables false
set_option linter.unusedSimpArgs false

def PutBEnd (w : World) (b : List UInt8) (x : Bat) (e : Ending) (w' : World) : Prop :=
  ((putB x).2 = 0 → ∃ v', e = .returned (.tuple #[v', .int .i64 0]) ∧ OwnB w' w.heap.size v' (b ++ (putB x).1)) ∧
  ((putB x).2 ≠ 0 → e = .returned (.tuple #[.slice none 0 0, .int .i64 (((putB x).2 : Nat) : Int)])) ∧ Below w.heap.size w w'
theorem PutBEnd.bad {w w' : World} {b : List UInt8} {x : Bat} {c : Nat} (h : (putB x).2 = c) (hc : c ≠ 0) (hx : Ext w w') : PutBEnd w b x (.returned (.tuple #[.slice none 0 0, .int .i64 (c : Int)])) w' := by
  subst h
  exact ⟨fun e => absurd e hc, fun _ => rfl, hx⟩
theorem PutBEnd.good {w w' : World} {b : List UInt8} {x : Bat} {v : Value} (h : (putB x).2 = 0) (ho : OwnB w' w.heap.size v (b ++ (putB x).1)) (hx : Ext w w') : PutBEnd w b x (.returned (.tuple #[v, .int .i64 0])) w' :=
  ⟨fun _ => ⟨v, rfl, ho⟩, fun e => absurd h e, hx⟩

theorem putB_head {x : Bat} (h : headOk x = false) : (putB x).2 = 11 := by unfold putB; rw [if_pos h]
theorem putB_evs {x : Bat} (h : headOk x = true) (h2 : x.2.2.2.all evOk = false) : (putB x).2 = 13 := by unfold putB; rw [if_neg (by rw [h]; decide), if_pos h2]
theorem putB_long {x : Bat} (h : headOk x = true) (h2 : x.2.2.2.all evOk = true) (h3 : 2000 < (putBat x).length) : (putB x).2 = 12 := by unfold putB; rw [if_neg (by rw [h]; decide), if_neg (by rw [h2]; decide), if_pos h3]
theorem putB_good {x : Bat} (h : headOk x = true) (h2 : x.2.2.2.all evOk = true) (h3 : ¬ 2000 < (putBat x).length) : putB x = (putBat x, 0) := by unfold putB; rw [if_neg (by rw [h]; decide), if_neg (by rw [h2]; decide), if_neg h3]

theorem src_one_d (w : World) (b : UInt8) (n : Int) (hn : n = b.toNat) : Src Try.prog 1 54 (.slice (some ⟨w.heap.size, 0, none⟩) 1 1) [b].length (bvs [b]) (w.alloc (.cells #[.int .u8 n] 5)).drew := src_one w.drew b n hn
theorem putBat_pos (x : Bat) : 0 < (putBat x).length := by
  unfold putBat putHead
  simp only [List.length_append, List.length_cons]
  have := (putU_len x.2.2.2.length).1
  omega

set_option maxRecDepth 100000 in
set_option maxHeartbeats 8000000 in
theorem PutBatch_any (w : World) (S : Nat → Prop) (bv : Value) (b : List UInt8) (hb : RdB w bv b) (hbl : b.length ≤ 140737488351232) (s k : ByteArray) (n : Int) (ev : Value) (es : List Ev) (hs : s.size ≤ 9223372036854775807) (hk : k.size ≤ 9223372036854775807) (hn : -9223372036854775808 ≤ n ∧ n ≤ 9223372036854775807) (he : RdS rE w S ev es) :
    Calls Try.prog 27 #[bv, .agg #[.string s, .string k, .int .i64 n, ev]] w (PutBEnd w b (s, k, n, es)) := by
  obtain ⟨hn1, hn2⟩ := hn
  obtain ⟨ea, ec, rfl, hec1, hec2⟩ := he.slice
  obtain ⟨ba, bc, rfl, hbc1, hbc2, -, -⟩ := id hb
  have hbc3 : bc ≤ 9223372036854775807 := by unfold maxLen at hbc2; omega
  clear hbc2
  have HB := hid hb
  have HE := hid he
  clear hb he
  have hxa : Ext w (w.alloc (.cells #[.string s, .string k, .int .i64 n, .slice ea es.length ec] 31)) := (Ext.refl w).alloc _
  cases hh : headOk (s, k, n, es)
  · have H11 := hid (putB_head hh)
    have hall : nameOk s = false ∨ (nameOk s = true ∧ 60 < k.size) ∨ (nameOk s = true ∧ k.size ≤ 60 ∧ n < 0) ∨ (nameOk s = true ∧ k.size ≤ 60 ∧ 0 ≤ n ∧ 1099511627776 < n) ∨ (nameOk s = true ∧ k.size ≤ 60 ∧ 0 ≤ n ∧ n ≤ 1099511627776 ∧ es.length = 0) ∨ (nameOk s = true ∧ k.size ≤ 60 ∧ 0 ≤ n ∧ n ≤ 1099511627776 ∧ 16 < es.length) := by
      by_cases a0 : nameOk s = true
      · by_cases a1 : 60 < k.size
        · exact .inr (.inl ⟨a0, a1⟩)
        by_cases a2 : n < 0
        · exact .inr (.inr (.inl ⟨a0, by omega, a2⟩))
        by_cases a3 : 1099511627776 < n
        · exact .inr (.inr (.inr (.inl ⟨a0, by omega, by omega, a3⟩)))
        by_cases a4 : es.length = 0
        · exact .inr (.inr (.inr (.inr (.inl ⟨a0, by omega, by omega, by omega, a4⟩))))
        by_cases a5 : 16 < es.length
        · exact .inr (.inr (.inr (.inr (.inr ⟨a0, by omega, by omega, by omega, a5⟩))))
        exfalso
        have : headOk (s, k, n, es) = true := by
          unfold headOk
          dsimp only
          rw [a0, decide_eq_true (show k.size ≤ 60 by omega), decide_eq_true (show 0 ≤ n ∧ n ≤ 1099511627776 by omega), decide_eq_true (show 1 ≤ es.length ∧ es.length ≤ 16 by omega)]
          rfl
        rw [this] at hh
        cases hh
      · exact .inl (by simpa using a0)
    clear hh
    rcases hall with h | ⟨h, h2⟩ | ⟨h, h2, h3⟩ | ⟨h, h2, h3, h4⟩ | ⟨h, h2, h3, h4, h5⟩ | ⟨h, h2, h3, h4, h5⟩
    case inr.inr.inr.inr.inl =>
      have hes : es = [] := List.eq_nil_of_length_eq_zero h5
      subst hes
      have HH := hid h
      clear h h5
      go_enter Try.func27, Try.ntmps27
      go_wp2_with ((go_at_call 52; refine (name_any _ s hs).mono ?_; rw [HH.out]; rintro e w' ⟨rfl, rfl⟩))
      go_ret2
      exact PutBEnd.bad H11.out (by decide) ((Ext.refl w).alloc _)
    case inr.inr.inr.inr.inr =>
      have HH := hid h
      have hlz : ((es.length : Int) == 0) = false := by rw [beq_eq_false_iff_ne]; omega
      clear h
      go_enter Try.func27, Try.ntmps27
      go_wp2_with ((go_at_call 52; refine (name_any _ s hs).mono ?_; rw [HH.out]; rintro e w' ⟨rfl, rfl⟩))
      go_ret2
      exact PutBEnd.bad H11.out (by decide) hxa
    all_goals
      have HH := hid h
      clear h
      go_enter Try.func27, Try.ntmps27
      go_wp2_with ((go_at_call 52; refine (name_any _ s hs).mono ?_; rw [HH.out]; rintro e w' ⟨rfl, rfl⟩))
      go_ret2
      exact PutBEnd.bad H11.out (by decide) hxa
  · have hparts := headOk_parts hh
    dsimp only at hparts
    obtain ⟨⟨g1, g1'⟩, g2, ⟨g3, g4⟩, g5, g6⟩ := hparts
    have hnk : nameOk s = true := by unfold nameOk; exact decide_eq_true ⟨g1, g1'⟩
    have hlz : ((es.length : Int) == 0) = false := by rw [beq_eq_false_iff_ne]; omega
    have HNK := hid hnk
    have HHD := hid hh
    clear hnk hh
    go_enter Try.func27, Try.ntmps27
    go_wp2_with ((go_at_call 52; refine (name_any _ s hs).mono ?_; rw [HNK.out]; rintro e w' ⟨rfl, rfl⟩))
    have c0 : (w.alloc (.cells #[.string s, .string k, .int .i64 n, .slice ea es.length ec] 31)).cell? ⟨w.heap.size, 0, none⟩ = some (.string s) := by simp [go_sem]
    have c1 : (w.alloc (.cells #[.string s, .string k, .int .i64 n, .slice ea es.length ec] 31)).cell? ⟨w.heap.size, 1, none⟩ = some (.string k) := by simp [go_sem]
    have c2 : (w.alloc (.cells #[.string s, .string k, .int .i64 n, .slice ea es.length ec] 31)).cell? ⟨w.heap.size, 2, none⟩ = some (.int .i64 n) := by simp [go_sem]
    have c3 : (w.alloc (.cells #[.string s, .string k, .int .i64 n, .slice ea es.length ec] 31)).cell? ⟨w.heap.size, 3, none⟩ = some (.slice ea es.length ec) := by simp [go_sem]
    obtain ⟨wa, hwa⟩ : ∃ wa, wa = w.alloc (.cells #[.string s, .string k, .int .i64 n, .slice ea es.length ec] 31) := ⟨_, rfl⟩
    have hbw : w.heap.size < wa.heap.size := by rw [hwa]; simp
    rw [← hwa] at c0 c1 c2 c3 hxa ⊢
    clear hwa
    have C0 := hid c0
    have C1 := hid c1
    have C2 := hid c2
    have C3 := hid c3
    have HXA := hid hxa
    clear c0 c1 c2 c3
    go_loopw [49] (fun u49 wr => ∃ i : Nat, i ≤ es.length ∧ u49 = .int .i64 i ∧ (es.take i).all evOk = true ∧ Ext wa wr) (fun i _ => es.length - (intOf i).toNat)
    case atStart => exact ⟨0, by omega, rfl, rfl, Ext.refl _⟩
    case round =>
      obtain ⟨i, hi, rfl, hall, hx⟩ := hrel
      have HALL := hid hall
      clear hall
      by_cases hlt : i < es.length
      · obtain ⟨g, o, cap, fv, e, hg, -, d0, d1, d2, z1, z2, hfs⟩ := (HE.out.ext (HXA.out.trans hx)).atE i hlt
        simp only [Value.slice.injEq] at e
        obtain ⟨rfl, -, rfl⟩ := e
        have hmem := List.getElem_mem hlt
        have htk := List.take_succ_eq_append_getElem hlt
        cases hE : evOk es[i]
        · have hbad : es.all evOk = false := by
            cases hh : es.all evOk
            · rfl
            · rw [List.all_eq_true] at hh
              rw [hh _ hmem] at hE
              cases hE
          have H13 := hid (putB_evs HHD.out hbad)
          have HC := hid (show checkF es[i] = 13 by unfold checkF; rw [hE]; rfl)
          clear hE hmem htk hbad
          generalize es[i] = x at d0 d1 d2 z1 z2 hfs HC
          obtain ⟨t, m, fs⟩ := x
          dsimp only at d0 d1 d2 z1 z2 hfs
          obtain ⟨fa, fc, rfl, -⟩ := hfs.slice
          go_wp2_with ((go_at_call 23; go_must (refine (Check_any _ _ t m _ fs z1 z2 (hfs.ext ((Ext.refl wr).alloc _))).mono ?_; rw [HC.out]; rintro e w' ⟨rfl, hb'⟩; have hx' := Ext.of hb'; clear hb')))
          go_ret2
          exact PutBEnd.bad H13.out (by decide) (HXA.out.trans (by (· repeat (first | (with_reducible assumption) | exact Ext.refl _ | refine Ext.alloc ?_ _ | refine Ext.drew ?_ | refine Ext.drewN ?_ _ | (apply Ext.snart; (with_reducible assumption))))))
        · have HC := hid (show checkF es[i] = 0 by unfold checkF; rw [hE]; rfl)
          have HTK := hid (show (es.take (i + 1)).all evOk = true by rw [htk, List.all_append, HALL.out]; simp [hE])
          clear hE hmem htk
          generalize es[i] = x at d0 d1 d2 z1 z2 hfs HC
          obtain ⟨t, m, fs⟩ := x
          dsimp only at d0 d1 d2 z1 z2 hfs
          obtain ⟨fa, fc, rfl, -⟩ := hfs.slice
          go_wp2_with ((go_at_call 23; go_must (refine (Check_any _ _ t m _ fs z1 z2 (hfs.ext ((Ext.refl wr).alloc _))).mono ?_; rw [HC.out]; rintro e w' ⟨rfl, hb'⟩; have hx' := Ext.of hb'; clear hb')))
          go_roundw
          case rel => exact ⟨i + 1, by omega, by go_num, HTK.out, by (· repeat (first | (with_reducible assumption) | exact Ext.refl _ | refine Ext.alloc ?_ _ | refine Ext.drew ?_ | refine Ext.drewN ?_ _ | (apply Ext.snart; (with_reducible assumption))))⟩
          case measure => simp [intOf]; omega
      · obtain rfl : i = es.length := by omega
        rw [List.take_length] at HALL
        have c0 := Ext.cellS hx C0.out
        have c1 := Ext.cellS hx C1.out
        have c2 := Ext.cellS hx C2.out
        have c3 := Ext.cellS hx C3.out
        have hsl : s.data.toList.length = s.size := by rw [Array.length_toList]; rfl
        have hkl : k.data.toList.length = k.size := by rw [Array.length_toList]; rfl
        have hps := putT_le s.data.toList
        have hpk := putT_le k.data.toList
        rw [hsl] at hps
        rw [hkl] at hpk
        clear hsl hkl
        obtain ⟨n, rfl⟩ := Int.eq_ofNat_of_zero_le g3
        have hpn := putU_len n
        have hpe := putU_len es.length
        obtain ⟨wo, rfl⟩ : ∃ wo : World, wo = wr := ⟨_, rfl⟩
        have HXO := hid hx
        clear hx
        go_wp2_with fail
        (refine Calls.mono (PutText_any _ _ ?_ _ ?_ ?_ ?_) ?_; rotate_left; (first | (with_reducible assumption) | (exact RdB.nil _) | (apply RdB.ext; (with_reducible assumption); (· repeat (first | (with_reducible assumption) | exact Ext.refl _ | refine Ext.alloc ?_ _ | refine Ext.drew ?_ | refine Ext.drewN ?_ _ | (apply Ext.snart; (with_reducible assumption)))))); omega; (first | omega | (simp only [List.length_append, List.length_cons, List.length_nil]; omega) | omega); (rintro e w' hnb; obtain ⟨v', X1, hX1, rfl, ho', hb'⟩ := NewB.open hnb; clear hnb; have HX1 := hid hX1; have hl1 := Nat.le_of_eq (congrArg List.length hX1); clear hX1; (try simp only [List.length_append, List.length_cons, List.length_nil, Nat.zero_add] at hl1); have hr' := rdB_own ho'; obtain ⟨a', c', rfl⟩ := OwnB.slice ho'; have hx' := Ext.of hb'; clear hb'))
        have c1 := Ext.cellS hx' c1
        have c2 := Ext.cellS hx' c2
        have c3 := Ext.cellS hx' c3
        go_wp2_with fail
        (refine Calls.mono (PutText_any _ _ ?_ _ ?_ ?_ ?_) ?_; rotate_left; (first | (with_reducible assumption) | (exact RdB.nil _) | (apply RdB.ext; (with_reducible assumption); (· repeat (first | (with_reducible assumption) | exact Ext.refl _ | refine Ext.alloc ?_ _ | refine Ext.drew ?_ | refine Ext.drewN ?_ _ | (apply Ext.snart; (with_reducible assumption)))))); omega; (first | omega | (simp only [List.length_append, List.length_cons, List.length_nil]; omega) | omega); (rintro e w' hnb; obtain ⟨v', X2, hX2, rfl, ho', hb'⟩ := NewB.open hnb; clear hnb; have HX2 := hid hX2; have hl2 := Nat.le_of_eq (congrArg List.length hX2); clear hX2; (try simp only [List.length_append, List.length_cons, List.length_nil, Nat.zero_add] at hl2); have hr' := rdB_own ho'; obtain ⟨a', c', rfl⟩ := OwnB.slice ho'; have hx' := Ext.of hb'; clear hb'))
        have c2 := Ext.cellS hx' c2
        have c3 := Ext.cellS hx' c3
        go_wp2_with fail
        (refine Calls.mono (PutUint_any _ _ ?_ _ ?_ ?_ ?_) ?_; rotate_left; (first | (with_reducible assumption) | (exact RdB.nil _) | (apply RdB.ext; (with_reducible assumption); (· repeat (first | (with_reducible assumption) | exact Ext.refl _ | refine Ext.alloc ?_ _ | refine Ext.drew ?_ | refine Ext.drewN ?_ _ | (apply Ext.snart; (with_reducible assumption)))))); omega; (first | omega | (simp only [List.length_append, List.length_cons, List.length_nil]; omega) | omega); (rintro e w' hnb; obtain ⟨v', X3, hX3, rfl, ho', hb'⟩ := NewB.open hnb; clear hnb; have HX3 := hid hX3; have hl3 := Nat.le_of_eq (congrArg List.length hX3); clear hX3; (try simp only [List.length_append, List.length_cons, List.length_nil, Nat.zero_add] at hl3); have hr' := rdB_own ho'; obtain ⟨a', c', rfl⟩ := OwnB.slice ho'; have hx' := Ext.of hb'; clear hb'))
        have c3 := Ext.cellS hx' c3
        go_wp2_with fail
        (refine Calls.mono (PutUint_any _ _ ?_ _ ?_ ?_ ?_) ?_; rotate_left; (first | (with_reducible assumption) | (exact RdB.nil _) | (apply RdB.ext; (with_reducible assumption); (· repeat (first | (with_reducible assumption) | exact Ext.refl _ | refine Ext.alloc ?_ _ | refine Ext.drew ?_ | refine Ext.drewN ?_ _ | (apply Ext.snart; (with_reducible assumption)))))); omega; (first | omega | (simp only [List.length_append, List.length_cons, List.length_nil]; omega) | omega); (rintro e w' hnb; obtain ⟨v', X4, hX4, rfl, ho', hb'⟩ := NewB.open hnb; clear hnb; have HX4 := hid hX4; have hl4 := Nat.le_of_eq (congrArg List.length hX4); clear hX4; (try simp only [List.length_append, List.length_cons, List.length_nil, Nat.zero_add] at hl4); have hr' := rdB_own ho'; obtain ⟨a', c', rfl⟩ := OwnB.slice ho'; have hx' := Ext.of hb'; clear hb'))
        have c3 := Ext.cellS hx' c3
        go_wp2_with fail
        have HHE := hid (show X4 = putHead (s, k, (n : Int), es) by rw [HX4.out, HX3.out, HX2.out, HX1.out]; simp [putHead, bl])
        have HHL := hid (putHead_le _ HHD.out)
        have hxo := HXO.out
        have HXM := hid (show Ext w w' by (· repeat (first | (with_reducible assumption) | exact Ext.refl _ | refine Ext.alloc ?_ _ | refine Ext.drew ?_ | refine Ext.drewN ?_ _ | (apply Ext.snart; (with_reducible assumption)))))
        have HO4 := hid (OwnB.low (base' := w.heap.size) ho' (by apply Ext.size; (· repeat (first | (with_reducible assumption) | exact Ext.refl _ | refine Ext.alloc ?_ _ | refine Ext.drew ?_ | refine Ext.drewN ?_ _ | (apply Ext.snart; (with_reducible assumption))))))
        rw [HHE.out] at HO4
        have hr4 := HHE.out
        subst hr4
        have HHH := hid (show putBat (s, k, (n : Int), es) = putHead (s, k, (n : Int), es) ++ es.flatMap putEv from rfl)
        clear HHE HX4 HX1 HX2 HX3 hl1 hl2 hl3 hl4 hr' hxo
        have hhl := HHL.out
        generalize putHead (s, k, (n : Int), es) = HD at *
        have hm' : Ext w w' := HXM.out
        have c3 : w'.cell? ⟨w.heap.size, 3, none⟩ = some (.slice ea es.length ec) := c3
        have HEV := hid (List.all_eq_true.1 HALL.out)
        clear hx' ho'
        obtain ⟨wm, rfl⟩ : ∃ wm : World, wm = w' := ⟨_, rfl⟩
        clear c3
        go_loopw [9, 80] (fun u9 u80 wr => ∃ i : Nat, i ≤ es.length ∧ u80 = .int .i64 i ∧ OwnB wr w.heap.size u9 (HD ++ (es.take i).flatMap putEv) ∧ Ext wm wr) (fun _ i _ => es.length - (intOf i).toNat)
        case atStart => exact ⟨0, by omega, rfl, by simpa using HO4.out, Ext.refl _⟩
        case round =>
          obtain ⟨wq, rfl⟩ : ∃ wq : World, wq = wr := ⟨_, rfl⟩
          obtain ⟨i, hi, rfl, hown, hx⟩ := hrel
          have hel := flat_le putEv 4586 (es.take i) fun e he => putEv_le e (HEV.out e (List.mem_of_mem_take he))
          rw [List.length_take, Nat.min_eq_left hi] at hel
          have hil : 4586 * i ≤ 4586 * 16 := Nat.mul_le_mul_left _ (by omega)
          have HOWN := hid hown
          clear hown
          by_cases hlt : i < es.length
          · obtain ⟨g, o, cap, fv, e, hg, -, d0, d1, d2, z1, z2, hfs⟩ := (HE.out.ext (hm'.trans hx)).atE i hlt
            simp only [Value.slice.injEq] at e
            obtain ⟨rfl, -, rfl⟩ := e
            have htk := List.take_succ_eq_append_getElem hlt
            have hEok := HEV.out _ (List.getElem_mem hlt)
            have HFE := hid (show (es.take (i + 1)).flatMap putEv = (es.take i).flatMap putEv ++ putEv es[i] by rw [htk, List.flatMap_append]; simp)
            clear htk
            generalize es[i] = x at d0 d1 d2 z1 z2 hfs HFE hEok
            obtain ⟨t, m, fs⟩ := x
            dsimp only at d0 d1 d2 z1 z2 hfs
            obtain ⟨e1, e2⟩ := evOk_fields hEok
            obtain ⟨e3, e4, e5⟩ := evOk_head hEok
            dsimp only at e1 e2 e3 e4 e5
            have HEF := hid e2
            clear e2 hEok
            obtain ⟨m, rfl⟩ := Int.eq_ofNat_of_zero_le e4
            obtain ⟨fa, fc, rfl, hfc1, hfc2⟩ := hfs.slice
            have hpt := putT_le t.data.toList
            rw [show t.data.toList.length = t.size from by rw [Array.length_toList]; rfl] at hpt
            have hpm := putU_len m
            have hpf := putU_len fs.length
            have HFS := hid hfs
            obtain ⟨Y, hY⟩ : ∃ Y, Y = HD ++ (es.take i).flatMap putEv := ⟨_, rfl⟩
            have hYl : Y.length ≤ 80000 := by rw [hY, List.length_append]; omega
            have HY := hid hY
            rw [← hY] at HOWN
            clear hY hel hfs
            have hr' := rdB_own HOWN.out
            have hxb := (Ext.refl wq).alloc (.cells #[.string t, .int .i64 (m : Int), .slice fa fs.length fc] 46)
            go_wp2_with fail
            (refine Calls.mono (PutText_any _ _ ?_ _ ?_ ?_ ?_) ?_; rotate_left; (first | (with_reducible assumption) | (exact RdB.nil _) | (apply RdB.ext; (with_reducible assumption); (· repeat (first | (with_reducible assumption) | exact Ext.refl _ | refine Ext.alloc ?_ _ | refine Ext.drew ?_ | refine Ext.drewN ?_ _ | (apply Ext.snart; (with_reducible assumption)))))); omega; (first | omega | (simp only [List.length_append, List.length_cons, List.length_nil]; omega) | omega); (rintro e w' hnb; obtain ⟨v', X5, hX5, rfl, ho', hb'⟩ := NewB.open hnb; clear hnb; have HX5 := hid hX5; have hl5 := Nat.le_of_eq (congrArg List.length hX5); clear hX5; (try simp only [List.length_append, List.length_cons, List.length_nil, Nat.zero_add] at hl5); have hr' := rdB_own ho'; obtain ⟨a', c', rfl⟩ := OwnB.slice ho'; have hx' := Ext.of hb'; clear hb'))
            have b1 : w'.cell? ⟨wq.heap.size, 1, none⟩ = some (.int .i64 (m : Int)) := Ext.cellS hx' (by simp [go_sem])
            have b2 : w'.cell? ⟨wq.heap.size, 2, none⟩ = some (.slice fa fs.length fc) := Ext.cellS hx' (by simp [go_sem])
            go_wp2_with fail
            (refine Calls.mono (PutUint_any _ _ ?_ _ ?_ ?_ ?_) ?_; rotate_left; (first | (with_reducible assumption) | (exact RdB.nil _) | (apply RdB.ext; (with_reducible assumption); (· repeat (first | (with_reducible assumption) | exact Ext.refl _ | refine Ext.alloc ?_ _ | refine Ext.drew ?_ | refine Ext.drewN ?_ _ | (apply Ext.snart; (with_reducible assumption)))))); omega; (first | omega | (simp only [List.length_append, List.length_cons, List.length_nil]; omega) | omega); (rintro e w' hnb; obtain ⟨v', X6, hX6, rfl, ho', hb'⟩ := NewB.open hnb; clear hnb; have HX6 := hid hX6; have hl6 := Nat.le_of_eq (congrArg List.length hX6); clear hX6; (try simp only [List.length_append, List.length_cons, List.length_nil, Nat.zero_add] at hl6); have hr' := rdB_own ho'; obtain ⟨a', c', rfl⟩ := OwnB.slice ho'; have hx' := Ext.of hb'; clear hb'))
            have b2 := Ext.cellS hx' b2
            go_wp2_with fail
            (refine Calls.mono (PutUint_any _ _ ?_ _ ?_ ?_ ?_) ?_; rotate_left; (first | (with_reducible assumption) | (exact RdB.nil _) | (apply RdB.ext; (with_reducible assumption); (· repeat (first | (with_reducible assumption) | exact Ext.refl _ | refine Ext.alloc ?_ _ | refine Ext.drew ?_ | refine Ext.drewN ?_ _ | (apply Ext.snart; (with_reducible assumption)))))); omega; (first | omega | (simp only [List.length_append, List.length_cons, List.length_nil]; omega) | omega); (rintro e w' hnb; obtain ⟨v', X7, hX7, rfl, ho', hb'⟩ := NewB.open hnb; clear hnb; have HX7 := hid hX7; have hl7 := Nat.le_of_eq (congrArg List.length hX7); clear hX7; (try simp only [List.length_append, List.length_cons, List.length_nil, Nat.zero_add] at hl7); have hr' := rdB_own ho'; obtain ⟨a', c', rfl⟩ := OwnB.slice ho'; have hx' := Ext.of hb'; clear hb'))
            have b2 := Ext.cellS hx' b2
            go_wp2_with fail
            have HXQ := hid (show Ext wq w' by (· repeat (first | (with_reducible assumption) | exact Ext.refl _ | refine Ext.alloc ?_ _ | refine Ext.drew ?_ | refine Ext.drewN ?_ _ | (apply Ext.snart; (with_reducible assumption)))))
            have HXM2 := hid (show Ext wm w' by (· repeat (first | (with_reducible assumption) | exact Ext.refl _ | refine Ext.alloc ?_ _ | refine Ext.drew ?_ | refine Ext.drewN ?_ _ | (apply Ext.snart; (with_reducible assumption)))))
            have HO7 := hid (OwnB.low (base' := w.heap.size) ho' (by apply Ext.size; (· repeat (first | (with_reducible assumption) | exact Ext.refl _ | refine Ext.alloc ?_ _ | refine Ext.drew ?_ | refine Ext.drewN ?_ _ | (apply Ext.snart; (with_reducible assumption))))))
            have hl67 : X7.length ≤ 80100 := by omega
            have HX7E := hid (show X7 = Y ++ (putT (bl t) ++ (putU m ++ putU fs.length)) by rw [HX7.out, HX6.out, HX5.out]; simp [bl])
            clear HX7 HX6 HX5 hl5 hl6 hl7 hr' ho' hxb d0 d1 d2 hx' b1
            clear b2
            obtain ⟨wo, rfl⟩ : ∃ wo : World, wo = w' := ⟨_, rfl⟩
            go_loopw [9, 102] (fun u9 u102 wr => ∃ j : Nat, j ≤ fs.length ∧ u102 = .int .i64 j ∧ OwnB wr w.heap.size u9 (X7 ++ (fs.take j).flatMap putFld) ∧ Ext wo wr) (fun _ j _ => fs.length - (intOf j).toNat)
            case atStart => exact ⟨0, by omega, rfl, by simpa using HO7.out, Ext.refl _⟩
            case round =>
              obtain ⟨j, hj, rfl, hown, hxr⟩ := hrel
              have hfl := flat_le putFld 281 (fs.take j) fun f hf => putFld_le f (HEF.out f (List.mem_of_mem_take hf))
              rw [List.length_take, Nat.min_eq_left hj] at hfl
              have hjl : 281 * j ≤ 281 * 16 := Nat.mul_le_mul_left _ (by omega)
              have HOW2 := hid hown
              clear hown
              by_cases hlt2 : j < fs.length
              · obtain ⟨g', o', cap', e, hg', -, d0, d1, d2, d3, s1, s2, s3⟩ := (HFS.out.ext (HXQ.out.trans hxr)).atF j hlt2
                simp only [Value.slice.injEq] at e
                obtain ⟨rfl, -, rfl⟩ := e
                have htk := List.take_succ_eq_append_getElem hlt2
                have hfok := HEF.out _ (List.getElem_mem hlt2)
                have HFF := hid (show (fs.take (j + 1)).flatMap putFld = (fs.take j).flatMap putFld ++ putFld fs[j] by rw [htk, List.flatMap_append]; simp)
                clear htk
                generalize fs[j] = f at d0 d1 d2 d3 s1 s2 s3 HFF hfok
                obtain ⟨fn, ft, fi, fx⟩ := f
                have hfi1 := s2.1
                have hfi2 := s2.2
                dsimp only at d0 d1 d2 d3 s1 s3 hfi1 hfi2
                rw [fldOk_eq] at hfok
                unfold nameOk at hfok
                obtain ⟨Z, hZ⟩ : ∃ Z, Z = X7 ++ (fs.take j).flatMap putFld := ⟨_, rfl⟩
                have hZl : Z.length ≤ 90000 := by rw [hZ, List.length_append]; omega
                have HZ := hid hZ
                rw [← hZ] at HOW2
                clear hZ hfl s2
                have hpn2 := putT_le fn.data.toList
                rw [show fn.data.toList.length = fn.size from by rw [Array.length_toList]; rfl] at hpn2
                have hpx := putT_le fx.data.toList
                rw [show fx.data.toList.length = fx.size from by rw [Array.length_toList]; rfl] at hpx
                have hpi : (putI fi).length ≤ 10 := (putU_len (zig fi)).2
                have hr' := rdB_own HOW2.out
                cases ft
                · simp only [Bool.and_eq_true, decide_eq_true_eq, Bool.false_eq_true, if_false] at hfok
                  obtain ⟨⟨f1, f2⟩, f3⟩ := hfok
                  have HPF := hid (show putFld (fn, false, fi, fx) = putT (bl fn) ++ 0 :: putI fi by unfold putFld; rfl)
                  clear f3
                  go_wp2_with fail
                  obtain ⟨wb, hwb⟩ : ∃ wb, wb = wr.alloc (.cells #[.string fn, .bool false, .int .i64 fi, .string fx] 108) := ⟨_, rfl⟩
                  have k1 : wb.cell? ⟨wr.heap.size, 1, none⟩ = some (.bool false) := by rw [hwb]; simp [go_sem]
                  have k2 : wb.cell? ⟨wr.heap.size, 2, none⟩ = some (.int .i64 fi) := by rw [hwb]; simp [go_sem]
                  have hxb : Ext wr wb := by rw [hwb]; exact (Ext.refl wr).alloc _
                  have hbb : wr.heap.size < wb.heap.size := by rw [hwb]; simp
                  rw [← hwb]
                  clear hwb
                  (refine Calls.mono (PutText_any _ _ ?_ _ ?_ ?_ ?_) ?_; rotate_left; (first | (with_reducible assumption) | (exact RdB.nil _) | (apply RdB.ext; (with_reducible assumption); (· repeat (first | (with_reducible assumption) | exact Ext.refl _ | refine Ext.alloc ?_ _ | refine Ext.drew ?_ | refine Ext.drewN ?_ _ | (apply Ext.snart; (with_reducible assumption)))))); omega; (first | omega | (simp only [List.length_append, List.length_cons, List.length_nil]; omega) | omega); (rintro e w' hnb; obtain ⟨v', X8, hX8, rfl, ho', hb'⟩ := NewB.open hnb; clear hnb; have HX8 := hid hX8; have hl8 := Nat.le_of_eq (congrArg List.length hX8); clear hX8; (try simp only [List.length_append, List.length_cons, List.length_nil, Nat.zero_add] at hl8); have hr' := rdB_own ho'; obtain ⟨a', c', rfl⟩ := OwnB.slice ho'; have hx' := Ext.of hb'; clear hb'))
                  have k1 := Ext.cellS hx' k1
                  have k2 := Ext.cellS hx' k2
                  go_wp2_with fail
                  have hl8z : X8.length ≤ 90100 := by omega
                  have HX8' := hid (show X8 = Z ++ putT (bl fn) from HX8.out)
                  have hxwb : Ext wr w' := by (· repeat (first | (with_reducible assumption) | exact Ext.refl _ | refine Ext.alloc ?_ _ | refine Ext.drew ?_ | refine Ext.drewN ?_ _ | (apply Ext.snart; (with_reducible assumption))))
                  have HXWB := hid hxwb
                  clear hxwb HX8
                  go_region_held3 (fun w' => w'.cell? ⟨wr.heap.size, 2, none⟩ = some (.int .i64 fi)) (first | go_keep | exact Ext.cellS hx' (by with_reducible assumption) | exact (q5.cell (p := ⟨wr.heap.size, 2, none⟩) hbb).trans (by assumption) | exact (q5.cell (p := ⟨wr.heap.size, 2, none⟩) hbb).trans (by simpa [go_sem] using k2) | trivial) (first | ((with_reducible refine at_step_append ?_); refine step_appB rfl _ _ _ rfl wb.heap.size (.slice a' X8.length c') X8 rfl (appB_own (OwnB.ext ho' (by (· repeat (first | (with_reducible assumption) | exact Ext.refl _ | refine Ext.alloc ?_ _ | refine Ext.drew ?_ | refine Ext.drewN ?_ _ | (apply Ext.snart; (with_reducible assumption))))))) _ [0] rfl (src_one_d _ 0 _ rfl) (by simp; omega) (by have := hx'.size; first | omega | (simp; omega)) ?_; intro v9 w9 q1 q2 q3 q4 q5 q6; have ho9 := q2 (by simp); have hr9 := rdB_own ho9; obtain ⟨a9, c9, rfl⟩ := OwnB.slice ho9; (try simp only [List.length_append, List.length_cons, List.length_nil, Nat.zero_add, Nat.reduceAdd] at hr9); have hx9 := Ext.step (show Ext wb _ by (· repeat (first | (with_reducible assumption) | exact Ext.refl _ | refine Ext.alloc ?_ _ | refine Ext.drew ?_ | refine Ext.drewN ?_ _ | (apply Ext.snart; (with_reducible assumption))))) q5 (Nat.le_refl _)) | (go_at_call 50; go_must (refine Calls.mono (PutInt_any _ _ (X8 ++ [0]) fi (RdB.ext hr9 (by (· repeat (first | (with_reducible assumption) | exact Ext.refl _ | refine Ext.alloc ?_ _ | refine Ext.drew ?_ | refine Ext.drewN ?_ _ | (apply Ext.snart; (with_reducible assumption)))))) hfi1 hfi2 (by (first | omega | (simp only [List.length_append, List.length_cons, List.length_nil]; omega) | omega))) ?_; (rintro e w' hnb; obtain ⟨v', X9, hX9, rfl, ho', hb'⟩ := NewB.open hnb; clear hnb; have HX9 := hid hX9; have hl9 := Nat.le_of_eq (congrArg List.length hX9); clear hX9; (try simp only [List.length_append, List.length_cons, List.length_nil, Nat.zero_add] at hl9); have hr' := rdB_own ho'; obtain ⟨a', c', rfl⟩ := OwnB.slice ho'; have hx' := Ext.of hb'; clear hb'))))
                  all_goals
                    have hs9 := hx9.size
                    have hwx : Ext wb w' := hx9.trans hx'
                    have HO9 := hid (OwnB.low (base' := w.heap.size) ho' (by have := hx9.size; have := HXM2.out.size; have := hm'.size; have := hxr.size; omega))
                    go_wp2_with fail
                    go_roundw
                    case rel => exact ⟨j + 1, by omega, by go_num, by rw [HFF.out, HPF.out, ← List.append_assoc, ← HZ.out]; rw [show Z ++ (putT (bl fn) ++ 0 :: putI fi) = X9 by rw [HX9.out, HX8'.out]; simp]; exact HO9.out, hxr.trans (hxb.trans hwx)⟩
                    case measure => simp [intOf]; omega
                · simp only [Bool.and_eq_true, decide_eq_true_eq, if_true] at hfok
                  obtain ⟨⟨f1, f2⟩, f3, f4⟩ := hfok
                  have HPF := hid (show putFld (fn, true, fi, fx) = putT (bl fn) ++ 1 :: putT (bl fx) by unfold putFld; rfl)
                  clear f4
                  go_wp2_with fail
                  obtain ⟨wb, hwb⟩ : ∃ wb, wb = wr.alloc (.cells #[.string fn, .bool true, .int .i64 fi, .string fx] 108) := ⟨_, rfl⟩
                  have k1 : wb.cell? ⟨wr.heap.size, 1, none⟩ = some (.bool true) := by rw [hwb]; simp [go_sem]
                  have k3 : wb.cell? ⟨wr.heap.size, 3, none⟩ = some (.string fx) := by rw [hwb]; simp [go_sem]
                  have hxb : Ext wr wb := by rw [hwb]; exact (Ext.refl wr).alloc _
                  have hbb : wr.heap.size < wb.heap.size := by rw [hwb]; simp
                  rw [← hwb]
                  clear hwb
                  (refine Calls.mono (PutText_any _ _ ?_ _ ?_ ?_ ?_) ?_; rotate_left; (first | (with_reducible assumption) | (exact RdB.nil _) | (apply RdB.ext; (with_reducible assumption); (· repeat (first | (with_reducible assumption) | exact Ext.refl _ | refine Ext.alloc ?_ _ | refine Ext.drew ?_ | refine Ext.drewN ?_ _ | (apply Ext.snart; (with_reducible assumption)))))); omega; (first | omega | (simp only [List.length_append, List.length_cons, List.length_nil]; omega) | omega); (rintro e w' hnb; obtain ⟨v', X8, hX8, rfl, ho', hb'⟩ := NewB.open hnb; clear hnb; have HX8 := hid hX8; have hl8 := Nat.le_of_eq (congrArg List.length hX8); clear hX8; (try simp only [List.length_append, List.length_cons, List.length_nil, Nat.zero_add] at hl8); have hr' := rdB_own ho'; obtain ⟨a', c', rfl⟩ := OwnB.slice ho'; have hx' := Ext.of hb'; clear hb'))
                  have k1 := Ext.cellS hx' k1
                  have k3 := Ext.cellS hx' k3
                  go_wp2_with fail
                  have hl8z : X8.length ≤ 90100 := by omega
                  have HX8' := hid (show X8 = Z ++ putT (bl fn) from HX8.out)
                  have hxwb : Ext wr w' := by (· repeat (first | (with_reducible assumption) | exact Ext.refl _ | refine Ext.alloc ?_ _ | refine Ext.drew ?_ | refine Ext.drewN ?_ _ | (apply Ext.snart; (with_reducible assumption))))
                  have HXWB := hid hxwb
                  clear hxwb HX8
                  go_region_held3 (fun w' => w'.cell? ⟨wr.heap.size, 3, none⟩ = some (.string fx)) (first | go_keep | exact Ext.cellS hx' (by with_reducible assumption) | exact (q5.cell (p := ⟨wr.heap.size, 3, none⟩) hbb).trans (by assumption) | exact (q5.cell (p := ⟨wr.heap.size, 3, none⟩) hbb).trans (by simpa [go_sem] using k3) | trivial) (first | ((with_reducible refine at_step_append ?_); refine step_appB rfl _ _ _ rfl wb.heap.size (.slice a' X8.length c') X8 rfl (appB_own (OwnB.ext ho' (by (· repeat (first | (with_reducible assumption) | exact Ext.refl _ | refine Ext.alloc ?_ _ | refine Ext.drew ?_ | refine Ext.drewN ?_ _ | (apply Ext.snart; (with_reducible assumption))))))) _ [1] rfl (src_one_d _ 1 _ rfl) (by simp; omega) (by have := hx'.size; first | omega | (simp; omega)) ?_; intro v9 w9 q1 q2 q3 q4 q5 q6; have ho9 := q2 (by simp); have hr9 := rdB_own ho9; obtain ⟨a9, c9, rfl⟩ := OwnB.slice ho9; (try simp only [List.length_append, List.length_cons, List.length_nil, Nat.zero_add, Nat.reduceAdd] at hr9); have hx9 := Ext.step (show Ext wb _ by (· repeat (first | (with_reducible assumption) | exact Ext.refl _ | refine Ext.alloc ?_ _ | refine Ext.drew ?_ | refine Ext.drewN ?_ _ | (apply Ext.snart; (with_reducible assumption))))) q5 (Nat.le_refl _)) | (go_at_call 57; go_must (refine Calls.mono (PutText_any _ _ (X8 ++ [1]) fx (RdB.ext hr9 (by (· repeat (first | (with_reducible assumption) | exact Ext.refl _ | refine Ext.alloc ?_ _ | refine Ext.drew ?_ | refine Ext.drewN ?_ _ | (apply Ext.snart; (with_reducible assumption)))))) (by omega) (by (first | omega | (simp only [List.length_append, List.length_cons, List.length_nil]; omega) | omega))) ?_; (rintro e w' hnb; obtain ⟨v', X9, hX9, rfl, ho', hb'⟩ := NewB.open hnb; clear hnb; have HX9 := hid hX9; have hl9 := Nat.le_of_eq (congrArg List.length hX9); clear hX9; (try simp only [List.length_append, List.length_cons, List.length_nil, Nat.zero_add] at hl9); have hr' := rdB_own ho'; obtain ⟨a', c', rfl⟩ := OwnB.slice ho'; have hx' := Ext.of hb'; clear hb'))))
                  all_goals
                    have hs9 := hx9.size
                    have hwx : Ext wb w' := hx9.trans hx'
                    have HO9 := hid (OwnB.low (base' := w.heap.size) ho' (by have := hx9.size; have := HXM2.out.size; have := hm'.size; have := hxr.size; omega))
                    go_wp2_with fail
                    go_roundw
                    case rel => exact ⟨j + 1, by omega, by go_num, by rw [HFF.out, HPF.out, ← List.append_assoc, ← HZ.out]; rw [show Z ++ (putT (bl fn) ++ 1 :: putT (bl fx)) = X9 by rw [HX9.out, HX8'.out]; simp [bl]]; exact HO9.out, hxr.trans (hxb.trans hwx)⟩
                    case measure => simp [intOf]; omega
              · obtain rfl : j = fs.length := by omega
                have HOW3 := HOW2
                rw [List.take_length] at HOW3
                have hPE := hid (show putEv (t, (m : Int), fs) = putT (bl t) ++ (putU m ++ (putU fs.length ++ fs.flatMap putFld)) from rfl)
                go_wp2_with fail
                go_roundw
                case rel => exact ⟨i + 1, by omega, by go_num, by rw [HFE.out, hPE.out, ← List.append_assoc, ← HY.out]; have h := HOW3.out; rw [HX7E.out] at h; simpa [List.append_assoc] using h, HXM2.out.trans hxr⟩
                case measure => simp [intOf]; omega
          · obtain rfl : i = es.length := by omega
            rw [List.take_length, ← HHH.out] at HOWN
            have HPOS := hid (putBat_pos (s, k, (n : Int), es))
            have HLONG := hid (@putB_long _ HHD.out HALL.out)
            have HGOOD := hid (@putB_good _ HHD.out HALL.out)
            obtain ⟨pa, pc, rfl⟩ := OwnB.slice HOWN.out
            have hpl : (putBat (s, k, (n : Int), es)).length ≤ 140737 := by rw [HHH.out, List.length_append]; rw [List.take_length] at hel; omega
            clear hel
            have hrP := rdB_own HOWN.out
            have HXE := hid (HXM.out.trans hx)
            by_cases hlong : 2000 < (putBat (s, k, (n : Int), es)).length
            · have H12 := hid (HLONG.out hlong)
              have hxe := HXE.out
              clear hrP
              generalize (putBat (s, k, (n : Int), es)) = PB at *
              go_wp2_with fail
              go_ret2
              exact PutBEnd.bad H12.out (by decide) hxe
            · have H0 := hid (HGOOD.out hlong)
              have hxe := HXE.out
              have hbw := HB.out.ext hxe
              generalize (putBat (s, k, (n : Int), es)) = PB at *
              go_wp2_with (first | (go_at_call 59; refine (room_any _ _ _ _ hbc1 hbc3).mono ?_; rintro e w' ⟨rfl, rfl⟩) | (at_builtin; go_must (refine wl_appB rfl _ _ _ rfl wq.heap.size (.slice ba b.length b.length) b rfl (full_app hbw) _ PB rfl (src_B hrP) ?_ ?_ ?_; (first | omega | (simp only [List.length_cons, List.length_nil, List.length_append, le32]; omega)); (first | omega | (simp only [World.alloc, Array.size_push]; omega)); intro v' w' k1 k2 k3 k4 k5 k6)))
              go_ret2
              refine PutBEnd.good (by rw [H0.out]) (by rw [H0.out]; exact OwnB.low (k2 HPOS.out) hxe.size) ?_
              exact hxe.trans k5
end Go.Proofs.Ythobhkmphjnlaaa
