/- CodecOrder, walked. -/
import Derived.Test.YthmpikbbkoblfaaLaysW
import Derived.Test.YthmpikbbkoblfaaOpn
namespace Go.Proofs.Ythmpikbbkoblfaa
open Go.RowKit
set_option linter.unusedVariables false
set_option linter.unusedSimpArgs false
attribute [local go_sem ↓] Go.wp_at_zero Go.wp_at_succ

theorem putUk_mono (k : Nat) : ∀ m n, m ≤ n → (putUk k m).length ≤ (putUk k n).length := by
  induction k with
  | zero => intro m n _; simp [putUk]
  | succ k ih =>
    intro m n h
    by_cases h1 : m < 128
    · rw [putUk_small h1]; exact (putUk_len (k + 1) n).1
    · rw [putUk_step h1, putUk_step (by omega)]
      have := ih (m / 128) (n / 128) (Nat.div_le_div_right h)
      simpa using this
theorem putU_mono (m n : Nat) (h : m ≤ n) : (putU m).length ≤ (putU n).length := putUk_mono 9 m n h

/-- texts, one behind the other -/
def allT (ls : List ByteArray) : List UInt8 := ls.flatMap fun s => putT s.data.toList
theorem allT_cons (s : ByteArray) (ls : List ByteArray) : allT (s :: ls) = putT s.data.toList ++ allT ls := by simp [allT]
theorem allT_snoc (ls : List ByteArray) (s : ByteArray) : allT (ls ++ [s]) = allT ls ++ putT s.data.toList := by simp [allT]
theorem putT_length (s : List UInt8) : (putT s).length ≤ s.length + 10 := by
  have := putU_len s.length
  unfold putT; rw [List.length_append]; omega
theorem allT_len (ls : List ByteArray) : (allT ls).length ≤ bL bS ls + 9 * ls.length := by
  unfold bL
  induction ls with
  | nil => simp [allT]
  | cons s ls ih =>
    rw [allT_cons]
    have := putT_length s.data.toList
    have hs : s.data.toList.length = s.size := by rw [Array.length_toList]; rfl
    simp only [List.length_append, List.length_cons, List.map_cons, List.sum_cons, bS] at ih ⊢
    omega
theorem bL_take {α : Type} (b : α → Nat) (xs : List α) (k : Nat) : bL b (xs.take k) ≤ bL b xs := by
  unfold bL
  have : (xs.take k ++ xs.drop k) = xs := List.take_append_drop k xs
  have h2 := congrArg (fun l => (l.map b).sum) this
  simp only [List.map_append, List.sum_append] at h2
  omega

set_option maxRecDepth 100000 in
set_option maxHeartbeats 2000000 in
theorem codecOrder_walk (w : World) (a : Int) (ha : 0 ≤ a ∧ a ≤ 18446744073709551615) (b : Int) (hb : 0 ≤ b ∧ b ≤ 18446744073709551615) (v : Value) (ls : List ByteArray) (rd : RdS rS w (fun k => k < w.heap.size) v ls) (sz : bL bS ls ≤ 1048576) :
    Calls Try.prog 14 #[.int .u64 a, .int .u64 b, v] w fun e w' => e = .returned (.bool true) ∧ Below w.heap.size w w' := by
  obtain ⟨av, cv, rfl, hc1, hc2⟩ := rd.slice
  obtain ⟨a, rfl⟩ := Int.eq_ofNat_of_zero_le ha.1
  obtain ⟨b, rfl⟩ := Int.eq_ofNat_of_zero_le hb.1
  have ha2 : a ≤ 18446744073709551615 := by omega
  have hb2 : b ≤ 18446744073709551615 := by omega
  clear ha hb
  have hpa := putU_len a
  have hpb := putU_len b
  have HRD := hid rd
  clear rd
  rcases Nat.lt_trichotomy b a with hab | rfl | hab
  all_goals
    first | have hmono := putU_mono _ _ (Nat.le_of_lt hab) | have hmono := Nat.le_refl (putU b).length
    go_enter Try.func14, Try.ntmps14
    go_wp2_with (first | (go_at_call 15; go_must (refine (awake_any _).mono ?_; rintro e w' ⟨rfl, hb'⟩; have hx' := Ext.of hb'; clear hb')) | (go_at_call 50; go_must (refine Calls.mono (PutUint_any _ _ ?_ _ ?_ ?_ ?_) ?_; rotate_left; (first | (with_reducible assumption) | (exact RdB.nil _) | (apply RdB.ext; (with_reducible assumption); (· repeat (first | (with_reducible assumption) | exact Ext.refl _ | refine Ext.alloc ?_ _ | refine Ext.drew ?_ | refine Ext.drewN ?_ _ | (apply Ext.snart; (with_reducible assumption)))))); (first | omega | (simp only [List.length_append, List.length_cons, List.length_nil]; omega) | omega); (first | omega | (simp only [List.length_append, List.length_cons, List.length_nil]; omega) | omega); (rintro e w' ⟨v', rfl, ho', hb'⟩; have hr' := rdB_own ho'; obtain ⟨a', c', rfl⟩ := OwnB.slice ho'; (try simp only [List.nil_append, List.length_append, List.length_cons, List.length_nil] at ho' hr'); have hx' := Ext.of hb'; clear hb'))))
    have HX := hid (show Ext w w' by (· repeat (first | (with_reducible assumption) | exact Ext.refl _ | refine Ext.alloc ?_ _ | refine Ext.drew ?_ | refine Ext.drewN ?_ _ | (apply Ext.snart; (with_reducible assumption)))))
    clear ho' hr' hx'
    go_loopw [10, 11] (fun u i wr => ∃ k : Nat, k ≤ ls.length ∧ k ≤ 30 ∧ i = .int .i64 k ∧ RdB wr u (allT (ls.take k)) ∧ Ext w' wr) (fun _ i _ => 30 - (intOf i).toNat)
    case atStart => exact ⟨0, by omega, by omega, rfl, RdB.nil _, Ext.refl _⟩
    case round =>
      obtain ⟨k, hk, hk30, rfl, hr', hx'⟩ := hrel
      have hlen := allT_len (ls.take k)
      have hbt := bL_take bS ls k
      rw [List.length_take, Nat.min_eq_left hk] at hlen
      by_cases hlt : k < ls.length ∧ k < 30
      · obtain ⟨hlt, hlt2⟩ := hlt
        obtain ⟨g, o, cap, e, hg, -, hc, hsz⟩ := (HRD.out.ext (HX.out.trans hx')).atS k hlt
        simp only [Value.slice.injEq] at e
        obtain ⟨rfl, -, rfl⟩ := e
        have HT := hid (show allT (ls.take (k + 1)) = allT (ls.take k) ++ putT ls[k].data.toList by rw [List.take_succ_eq_append_getElem hlt, allT_snoc])
        have hm : ls[k].size + 1 < bL bS ls := bL_mem (b := bS) (List.getElem_mem hlt)
        generalize ls[k] = s at hc hsz HT hm
        generalize allT (ls.take k) = all at hr' hlen HT
        obtain ⟨aa, ca, rfl, -⟩ := id hr'
        go_wp2_with (first | (go_at_call 54; go_must (refine Calls.mono (PutText_any _ _ ?_ _ ?_ ?_ ?_) ?_; rotate_left; (first | (with_reducible assumption) | (exact RdB.nil _) | (apply RdB.ext; (with_reducible assumption); (· repeat (first | (with_reducible assumption) | exact Ext.refl _ | refine Ext.alloc ?_ _ | refine Ext.drew ?_ | refine Ext.drewN ?_ _ | (apply Ext.snart; (with_reducible assumption)))))); omega; (first | omega | (simp only [List.length_append, List.length_cons, List.length_nil]; omega) | omega); (rintro e w' ⟨v', rfl, ho', hb'⟩; have hr' := rdB_own ho'; obtain ⟨a', c', rfl⟩ := OwnB.slice ho'; (try simp only [List.nil_append, List.length_append, List.length_cons, List.length_nil] at ho' hr'); have hx' := Ext.of hb'; clear hb'))))
        go_roundw
        case rel => exact ⟨k + 1, by omega, by omega, by go_num, by rw [HT.out]; exact hr', by (· repeat (first | (with_reducible assumption) | exact Ext.refl _ | refine Ext.alloc ?_ _ | refine Ext.drew ?_ | refine Ext.drewN ?_ _ | (apply Ext.snart; (with_reducible assumption))))⟩
        case measure => simp [intOf]; omega
      · have hex : ¬ k < ls.length ∨ (k < ls.length ∧ ¬ k < 30) := by omega
        clear hlt
        have hkm : k = min ls.length 30 := by omega
        have HK := hid hkm
        clear hkm
        rcases hex with hex | ⟨hex, hex2⟩
        all_goals
          generalize hall : allT (ls.take k) = all at *
          have HALL := hid hall
          clear hall
          obtain ⟨aa, ca, rfl, -⟩ := id hr'
          go_wp2_with fail
          go_loopw [10, 12] (fun u i wl => ∃ j : Nat, j ≤ k ∧ i = .int .i64 j ∧ RdB wl u (allT ((ls.take k).drop j)) ∧ Ext wr wl) (fun _ i _ => k - (intOf i).toNat)
          case atStart => exact ⟨0, by omega, rfl, by rw [List.drop_zero, HALL.out]; exact hr', Ext.refl _⟩
          case round =>
            obtain ⟨j, hj, rfl, hr2, hx2⟩ := hrel
            by_cases hjk : j < k
            · have hjl : j < ls.length := by omega
              have hlt' : j < (ls.take k).length := by rw [List.length_take]; omega
              obtain ⟨g, o, cap, e, hg, -, hc, hsz⟩ := (HRD.out.ext (HX.out.trans (hx'.trans hx2))).atS j hjl
              simp only [Value.slice.injEq] at e
              obtain ⟨rfl, -, rfl⟩ := e
              have hX : allT ((ls.take k).drop j) = putT ls[j].data.toList ++ allT ((ls.take k).drop (j + 1)) := by rw [List.drop_eq_getElem_cons hlt', allT_cons, List.getElem_take]
              have hT := textF_putT ls[j].data.toList (allT ((ls.take k).drop (j + 1))) (by rw [Array.length_toList]; show ls[j].size ≤ _; omega) ls[j].size (by rw [Array.length_toList]; exact Int.le_refl _)
              generalize ls[j] = s at hc hsz hX hT
              rw [← hX] at hT
              have hnl := congrArg List.length hX
              rw [List.length_append] at hnl
              have hd : (allT ((ls.take k).drop j)).drop (putT s.data.toList).length = allT ((ls.take k).drop (j + 1)) := by rw [hX, List.drop_left]
              have HD := hid hd
              have HT := hid hT
              clear hd hT hX
              generalize allT ((ls.take k).drop j) = X at *
              have hnl2 : (putT s.data.toList).length ≤ X.length := by omega
              clear hnl
              obtain ⟨ax, cx, rfl, hx3, hx4, -⟩ := id hr2
              have hr' := hr2.drop _ hnl2
              have hx5 : cx ≤ 9223372036854775807 := by unfold maxLen at hx4; omega
              clear hx4
              go_wp2_with (first | (go_at_call 42; go_must (refine Calls.mono (Text_any _ _ ?_ _ ?_ ?_ ?_) ?_; rotate_left; omega; omega; (first | (with_reducible assumption) | (exact RdB.nil _) | (apply RdB.ext; (with_reducible assumption); (· repeat (first | (with_reducible assumption) | exact Ext.refl _ | refine Ext.alloc ?_ _ | refine Ext.drew ?_ | refine Ext.drewN ?_ _ | (apply Ext.snart; (with_reducible assumption)))))); rw [HT.out]; rintro e w' ⟨rfl, rfl⟩)) | ((with_reducible refine at_slice ?_); go_must (refine wl_slice_l rfl rfl Try.underlying22 sizeU8 rfl rfl (putT s.data.toList).length rfl ?_ ?_; omega)))
              go_roundw
              case rel => exact ⟨j + 1, by omega, by go_num, by rw [← HD.out]; exact hr', by (· repeat (first | (with_reducible assumption) | exact Ext.refl _ | refine Ext.alloc ?_ _ | refine Ext.drew ?_ | refine Ext.drewN ?_ _ | (apply Ext.snart; (with_reducible assumption))))⟩
              case measure => simp [intOf]; omega
            · obtain rfl : j = k := by omega
              have hz : (allT ((ls.take j).drop j)).length ≤ 0 := by rw [List.drop_of_length_le (by rw [List.length_take]; omega)]; simp [allT]
              generalize allT ((ls.take j).drop j) = X at *
              obtain rfl : X = [] := List.eq_nil_of_length_eq_zero (by omega)
              obtain ⟨ax, cx, rfl, -⟩ := id hr2
              go_wp2_with fail
              go_ret
              exact ⟨rfl, HX.out.trans (hx'.trans hx2)⟩
end Go.Proofs.Ythmpikbbkoblfaa
