/- cartularylaw04: laid, awake -/
import Derived.Test.YtgbiffpnfpdcoaaJ5

/- journal: laid, within, walked. -/
namespace Go.Proofs.Ytgbiffpnfpdcoaa
open Go.RowKit Go.Maps
set_option linter.unusedVariables false
set_option linter.unusedSimpArgs false

theorem zb_data : (frameF zb).data = [] := by
  have hu : uintF (zb.drop 5) = (0, 1, 0) := by
    have h := uintF_putU 0 (by omega) (List.replicate 506 0)
    have e : zb.drop 5 = putU 0 ++ List.replicate 506 0 := by
      unfold zb
      rw [List.drop_replicate]
      rfl
    rw [e]; exact h
  unfold frameF
  rw [hu]
  repeat' split
  all_goals rfl
theorem listNum_zb : listNum zb = none := by
  unfold listNum
  rw [zb_data]
  exact if_neg fun h => by have := h.2.1.1; simp at this

set_option maxRecDepth 100000 in
set_option maxHeartbeats 1000000 in
theorem laid_any (w : World) (L : Nat) (hl : 64 ≤ L ∧ L ≤ 512) :
    Calls Try.prog 45 #[.int .i64 L] w fun e w' => ∃ g gl ρ d, e = .returned (.tuple #[.pointer (some ⟨g, 0, none⟩), .pointer (some ⟨gl, 0, none⟩)]) ∧ LogAt w w' g ρ 3000 d gl L 1 (fun _ => zb) ∧ Calm d := by
  obtain ⟨hl1, hl2⟩ := hl
  go_enter Try.func45, Try.ntmps45
  go_wp2_with fail
  refine (BNew_ok w L hl1 hl2).mono ?_
  rintro e w1 ⟨g, rfl, ⟨ρ, hd, hn⟩, hx⟩
  have HM := hid (show Mine w w1 g ρ 0 (dv0 L) from ⟨hd, hn, hx⟩)
  clear hd hn hx
  have hL0 : (dv0 L).safe.length = L := List.length_replicate
  go_wp2_with fail
  refine (JFormat_any HM.out (by omega) (calm_new L) (fun j h0 h1 => cur_new h0 (by omega))).mono ?_
  rintro e w2 ⟨rfl, ρ2, d2, hm2, hc2, hs2, hl2', hr2, hz2⟩
  have hl2'' : d2.safe.length = L := hl2'.trans hL0
  have hls : LogS L (curF d2) 0 (fun _ => zb) := by
    refine ⟨hr2, fun m hm => ?_, fun j a b => hz2 j (by omega) (by omega)⟩
    rw [hz2 2 (by omega) (by omega), listNum_zb] at hm
    cases hm
  have hop := LOpen hm2 (by omega) hc2 hs2 hl2'' (by omega) (n := 0) (by omega) (H := fun _ => zb) (res := none) (.inl ⟨rfl, hls⟩) (wsIn_nil L)
  have HOP := hid hop
  clear hop hm2 hc2 hs2 hl2' hr2 hz2 hls hL0
  go_wp2_with fail
  refine HOP.out.mono ?_
  rintro e w3 ⟨ρ3, d3, gl, rfl, h1, h2, h3, h4, h5⟩
  have H1 := hid h1
  clear h1 h3 h4 h5 HOP
  go_wp2_with fail
  refine bodyPost_ret (v := .tuple #[.pointer (some ⟨g, 0, none⟩), .pointer (some ⟨gl, 0, none⟩)]) (by simp [results, Try.results45, go_sem]) rfl ?_
  exact ⟨g, gl, ρ3, d3, rfl, { H1.out with hm := H1.out.hm.mono (by omega) }, h2⟩
end Go.Proofs.Ytgbiffpnfpdcoaa

/- cartularylaw04.awake, walked. -/
namespace Go.Proofs.Ytgbiffpnfpdcoaa
open Go.RowKit Go.Maps
set_option linter.unusedVariables false
set_option linter.unusedSimpArgs false

theorem LogS.cur {L : Nat} {s s' : Int → Bk} {n : Nat} {H : Int → Bk} (h : LogS L s n H) (hl : 64 ≤ L) (he : ∀ j : Int, 0 ≤ j → j < L → s' j = s j) : LogS L s' n H :=
  ⟨h.rec'.cur (he 0 (by omega) (by omega)) (he (0 + 1) (by omega) (by omega)), by rw [he 2 (by omega) (by omega)]; exact h.num, fun j a b => (he j (by omega) b).trans (h.home j a b)⟩
theorem LogAt.crash {w W : World} {g : Nat} {ρ : Nat → Option DRol} {N : Nat} {d : Dv} {gl L n : Nat} {H : Int → Bk} (h : LogAt w W g ρ N d gl L n H) (hl : 64 ≤ L) (picks : List Int) : LogS L (curF (crashF d picks)) n H :=
  h.sp.cur hl fun j a b => img_still h.st (img_crash d picks) j a (by rw [h.len]; exact b)
/-- crash of a living log's device: it is opened anew -/
theorem LCrash {w W : World} {g : Nat} {ρ : Nat → Option DRol} {N : Nat} {d : Dv} {L : Nat} (hm : Mine w W g ρ N d) (hN : N ≤ 999999000) (hL : d.safe.length = L) (P : (Int → Bk) → Prop) (hP : ∀ s, Img d s → P s) (S : Nat → Prop) (v : Value) (picks : List Int) (hv : RdS rI W S v picks) (hS : ∀ k, S k → k < W.heap.size → ρ k = none) :
    Calls Try.prog 29 #[.pointer (some ⟨g, 0, none⟩), v] W fun e W' => e = .returned (.tuple #[]) ∧ ∃ d', Mine w W' g ρ N d' ∧ Calm d' ∧ Still d' ∧ d'.safe.length = L ∧ P (curF d') ∧ Keep (fun k => ρ k = none) W W' := by
  refine (MCrash hm hN S v picks hv hS).mono ?_
  rintro e W' ⟨rfl, h1, h2⟩
  obtain ⟨h3, h4, h5, h6⟩ := crash_up d picks
  exact ⟨rfl, _, h1, up_calm h3 h5, h4, h6.trans hL, hP _ (img_crash d picks), h2⟩

theorem two_rdS {W : World} {S : Nat → Prop} {k : Nat} {u1 u2 : Value} {x1 x2 : Int} {A B : List UInt8} {t : TypeId} (h : W.heap[k]? = some (.cells #[.int .i64 x1, u1, .int .i64 x2, u2] t (0, 0))) (hk : S k) (h1 : -9223372036854775808 ≤ x1 ∧ x1 ≤ 9223372036854775807) (h2 : -9223372036854775808 ≤ x2 ∧ x2 ≤ 9223372036854775807)
    (ha : RdB W u1 A) (hb : RdB W u2 B) (sa : ∀ j, u1.ownBlock = some j → S j) (sb : ∀ j, u2.ownBlock = some j → S j) : RdS rWr W S (.slice (some ⟨k, 0, none⟩) 2 2) [(x1, A), (x2, B)] := by
  refine ⟨_, [([.int .i64 x1, u1], (x1, A)), ([.int .i64 x2, u2], (x2, B))], rfl, rfl, ⟨_, _, rfl, Nat.le_refl _, by simp [maxLen], rfl, fun _ => ⟨k, 0, rfl, (Array.getElem?_eq_some_iff.1 h).1, fun j hj => ?_⟩⟩, fun _ j hj => ?_, fun p hp => ?_⟩
  · rw [Nat.zero_add]
    exact (cell_of_row _ k j _ _ _ h).trans (by simp [cellsOf])
  · simp only [Value.ownBlock, Option.some.injEq] at hj; exact hj ▸ hk
  · rcases List.mem_cons.1 hp with rfl | hp
    · exact ⟨[.int .i64 x1], [u1], rfl, ⟨rfl, h1⟩, u1, rfl, ha, fun _ => sa⟩
    · obtain rfl := List.mem_singleton.1 hp
      exact ⟨[.int .i64 x2], [u2], rfl, ⟨rfl, h2⟩, u2, rfl, hb, fun _ => sb⟩

set_option maxRecDepth 100000 in
set_option maxHeartbeats 2000000 in
theorem awake04_any (w : World) : Calls Try.prog 44 #[] w fun e w' => e = .returned (.bool true) ∧ Ext w w' := by
  go_enter Try.func44, Try.ntmps44
  go_wp2_with fail
  refine (laid_any w 64 (by omega)).mono ?_
  rintro e w1 ⟨g, gl, ρ, d, rfl, hlog, hc⟩
  have HL := hid hlog
  have HC := hid hc
  clear hlog hc
  go_wp2_with fail
  refine (Size_any w1 gl g _ _ _ HL.out.log).mono ?_
  rintro e w2 ⟨rfl, rfl⟩
  go_wp2_with fail
  refine (Block_any w1 1 (by omega) ⟨#[]⟩).mono ?_
  rintro e w2 ⟨rfl, hr2, hx2⟩
  have HR2 := hid hr2
  have HX2 := hid hx2
  have hz2 := hx2.size
  have hk2 : w1.heap.size < w2.heap.size := (Array.getElem?_eq_some_iff.1 hr2).1
  clear hr2 hx2
  go_wp2_with fail
  refine (Block_any w2 2 (by omega) ⟨#[]⟩).mono ?_
  rintro e w3 ⟨rfl, hr3, hx3⟩
  have HR3 := hid hr3
  have HX3 := hid hx3
  have hz3 := hx3.size
  have hk3 : w2.heap.size < w3.heap.size := (Array.getElem?_eq_some_iff.1 hr3).1
  clear hr3 hx3
  obtain ⟨A, hA⟩ : ∃ A, A = blockL 1 ⟨#[]⟩ := ⟨_, rfl⟩
  obtain ⟨B, hB⟩ : ∃ B, B = blockL 2 ⟨#[]⟩ := ⟨_, rfl⟩
  have hAl : A.length = 512 := by rw [hA]; exact blockL_len _ _
  have hBl : B.length = 512 := by rw [hB]; exact blockL_len _ _
  rw [← hA] at HR2
  rw [← hB] at HR3
  clear hA hB
  go_wp2_with fail
  obtain ⟨w4, hw4⟩ : ∃ w4, w4 = w3.alloc (.cells #[.int .i64 0, .slice (some ⟨w1.heap.size, 0, none⟩) 512 512, .int .i64 1, .slice (some ⟨w2.heap.size, 0, none⟩) 512 512] 82) := ⟨_, rfl⟩
  rw [← hw4]
  have hx4 : Ext w3 w4 := by rw [hw4]; exact (Ext.refl _).alloc _
  have hr4 : w4.heap[w3.heap.size]? = some (.cells #[.int .i64 0, .slice (some ⟨w1.heap.size, 0, none⟩) 512 512, .int .i64 1, .slice (some ⟨w2.heap.size, 0, none⟩) 512 512] 82 (0, 0)) := by rw [hw4]; exact heap_alloc_new _ _
  have hx14 : Ext w1 w4 := (HX2.out.trans HX3.out).trans hx4
  have hgl1 : gl < w1.heap.size := HL.out.log.lt
  have hnew : ∀ k, w1.heap.size ≤ k → ρ k = none ∧ k ≠ gl := fun k hk => ⟨HL.out.hm.late (Ext.refl _) hk, by omega⟩
  have hra := row_ext (HX3.out.trans hx4) HR2.out
  have hrb := row_ext hx4 HR3.out
  have hrd := two_rdS (S := fun k => ρ k = none ∧ k ≠ gl) hr4 (hnew _ (by omega)) (by omega) (by omega) (row_rdB hra hAl) (row_rdB hrb hBl) (fun j hj => hnew j (by simp only [Value.ownBlock, Option.some.injEq] at hj; omega)) (fun j hj => hnew j (by simp only [Value.ownBlock, Option.some.injEq] at hj; omega))
  have hla : LogAt w w4 g ρ 3000 d gl 64 1 (fun _ => zb) := { HL.out with hm := HL.out.hm.ext hx14, log := HL.out.log.ext hx14 }
  have hin : WsIn 64 [(0, A), (1, B)] := ⟨⟨by simp, fun p hp => by
    rcases List.mem_cons.1 hp with rfl | hp
    · exact ⟨by simp, by simp, hAl⟩
    · obtain rfl := List.mem_singleton.1 hp; exact ⟨by simp, by simp, hBl⟩⟩, fun p hp => by
    rcases List.mem_cons.1 hp with rfl | hp
    · simp
    · obtain rfl := List.mem_singleton.1 hp; simp⟩
  have hcm := LCommit hla HC.out (by omega) (by omega) (by omega) _ _ hrd hin
  have HCM := hid hcm
  have HRA := hid hra
  have HRB := hid hrb
  have HNEW := hid hnew
  have hk4 : w3.heap.size < w4.heap.size := (Array.getElem?_eq_some_iff.1 hr4).1
  clear hw4 hx4 hr4 hx14 hra hrb hrd hla hin hcm hnew
  refine HCM.out.mono ?_
  rintro e w5 ⟨ρ5, d5, rfl, hl5, hc5, hr5, hkp5⟩
  have hH0 : wcurF 0 [(0, A), (1, B)] 0 (fun _ => zb) (20 + 0) = A := by simp [wcurF, posF]
  have hH1 : wcurF 0 [(0, A), (1, B)] 0 (fun _ => zb) (20 + 1) = B := by simp [wcurF, posF]
  generalize wcurF 0 [(0, A), (1, B)] 0 (fun _ => zb) = H at hl5 hH0 hH1
  have HL5 := hid hl5
  have hra5 := (hkp5.block w1.heap.size (HNEW.out _ (by omega)) (by omega)).trans HRA.out
  have hrb5 := (hkp5.block w2.heap.size (HNEW.out _ (by omega)) (by omega)).trans HRB.out
  have n1 : ρ5 w1.heap.size = none := rol_old hr5 (HNEW.out _ (by omega)).1 (by omega)
  have n2 : ρ5 w2.heap.size = none := rol_old hr5 (HNEW.out _ (by omega)).1 (by omega)
  have hz5 := hkp5.size
  have HH0 := hid hH0
  have HH1 := hid hH1
  clear hl5 hc5 hr5 hkp5 HCM HRA HRB HNEW hH0 hH1
  go_wp2_with fail
  refine (LCrash HL5.out.hm (by omega) HL5.out.len (fun s => LogS 64 s (1 + 1) H) (fun s hs => HL5.out.sp.cur (by omega) fun j a b => img_still HL5.out.st hs j a (by rw [HL5.out.len]; exact b)) (fun _ => False) (.slice none 0 0) [] (RdS.nil _ _ _) (fun k hk _ => hk.elim)).mono ?_
  rintro e w6 ⟨rfl, d6, hm6, hc6, hs6, hl6, hls6, hk6⟩
  have hra6 := row_past hk6 hra5 n1
  have hrb6 := row_past hk6 hrb5 n2
  have hz6 := hk6.size
  have hop := LOpen hm6 (by omega) hc6 hs6 hl6 (by omega) (n := 1 + 1) (by omega) (H := H) (res := none) (.inl ⟨rfl, hls6⟩) (wsIn_nil 64)
  have HOP := hid hop
  have HM6 := hid hm6
  have HRA := hid hra6
  have HRB := hid hrb6
  clear hop hm6 hc6 hs6 hl6 hls6 hk6 hra5 hrb5 hra6 hrb6
  go_wp2_with fail
  refine HOP.out.mono ?_
  rintro e w7 ⟨ρ7, d7, gm, rfl, hl7, hc7, hr7, hk7, hgm⟩
  have hra7 := row_past hk7 HRA.out n1
  have hrb7 := row_past hk7 HRB.out n2
  have h71 : ρ7 w1.heap.size = none := rol_old hr7 n1 (by omega)
  have h72 : ρ7 w2.heap.size = none := rol_old hr7 n2 (by omega)
  have hz7 := hk7.size
  have hng : ∀ k, ρ7 k = none → k ≠ g := fun k hk e => by
    obtain ⟨_, _, _, h⟩ := hl7.hm.dv
    rw [e, h.rg] at hk; cases hk
  rw [hn_none] at hl7
  have HL7 := hid hl7
  have HC7 := hid hc7
  have HRA7 := hid hra7
  have HRB7 := hid hrb7
  have g1 := hng _ h71
  have g2 := hng _ h72
  have hgml := hl7.log.lt
  clear hl7 hc7 hr7 hk7 HOP hra7 hrb7 HRA HRB h71 h72 hng n1 n2
  go_wp2_with fail
  refine (LRead HL7.out HC7.out (by omega) (by omega) 0 (by omega)).mono ?_
  rintro e w8 ⟨ka, rfl, hka, hrda, -, d8, hl8, hc8, hk8⟩
  have hz8 := hk8.size
  have hra8 := (hk8.block w1.heap.size ⟨g1, by omega⟩ (by omega)).trans HRA7.out
  have hrb8 := (hk8.block w2.heap.size ⟨g2, by omega⟩ (by omega)).trans HRB7.out
  have HL8 := hid hl8
  have HC8 := hid hc8
  have HRA8 := hid hra8
  have HRB8 := hid hrb8
  have HRD := hid hrda
  have hkal : ka < w8.heap.size := Rd.block_lt hrda (by rw [show (H (20 + 0)).length = 512 by rw [HH0.out]; exact hAl]; omega) ka rfl
  clear hl8 hc8 hra8 hrb8 hrda hk8
  go_wp2_with fail
  refine (LRead HL8.out HC8.out (by omega) (by omega) 1 (by omega)).mono ?_
  rintro e w9 ⟨kb, rfl, hkb, hrdb, -, d9, hl9, hc9, hk9⟩
  have hz9 := hk9.size
  have hgw : g < w7.heap.size := HL7.out.hm.glt
  have hra9 := (hk9.block w1.heap.size ⟨g1, by omega⟩ (by omega)).trans HRA8.out
  have hrb9 := (hk9.block w2.heap.size ⟨g2, by omega⟩ (by omega)).trans HRB8.out
  have hrdA : RdB w9 (.slice (some ⟨ka, 0, none⟩) 512 512) (H (20 + 0)) := Rd.carry0 HRD.out hk9.size fun _ j hj hl => hk9.block j (by simp only [Value.ownBlock, Option.some.injEq] at hj; omega) hl
  rw [HH0.out] at hrdA
  rw [HH1.out] at hrdb
  have s1 := run_strB hrdA
  have s2 := run_strB hrdb
  have s3 := run_strB (row_rdB hra9 hAl)
  have s4 := run_strB (row_rdB hrb9 hBl)
  have HX9 := hid hl9.hm.ex
  clear hl9 hc9 hk9 hra9 hrb9 hrdA hrdb
  go_wp2_with fail
  go_ret
  exact ⟨rfl, HX9.out⟩
end Go.Proofs.Ytgbiffpnfpdcoaa
