/- cartularylaw02.BlockdevFuses, walked. -/
import Derived.Test.YtgbiffpnfpdcoaaBdM
import Derived.Test.YtgbiffpnfpdcoaaCall2
namespace Go.Proofs.Ytgbiffpnfpdcoaa
open Go.RowKit Go.Maps
set_option linter.unusedVariables false
set_option linter.unusedSimpArgs false

/-- so many operations of k went well -/
def FuSt (d : Dv) (k good : Nat) : Prop := d.ops = good ∧ good ≤ k ∧ d.safe.length = 64 ∧ (d.down = false ∧ d.fuse = (k : Int) - good ∨ d.down = true ∧ good = k)
/-- alike but for what is pending, and the blocks -/
structure Head (d d' : Dv) : Prop where
  ops : d'.ops = d.ops
  down : d'.down = d.down
  fuse : d'.fuse = d.fuse
  len : d'.safe.length = d.safe.length
theorem FuSt.head {d d' : Dv} {k good : Nat} (h : FuSt d k good) (e : Head d d') : FuSt d' k good := by
  unfold FuSt at *
  rw [e.ops, e.down, e.fuse, e.len]; exact h
theorem FuSt.op {d : Dv} {k good : Nat} (h : FuSt d k good) {n : Int} (hn : 0 ≤ n ∧ n < 64) :
    (good < k ∧ (opF d n 0).1 = 0 ∧ FuSt (opF d n 0).2 k (good + 1)) ∨ (good = k ∧ (opF d n 0).1 = 2 ∧ (opF d n 0).2.down = true ∧ FuSt (opF d n 0).2 k good) := by
  obtain ⟨h1, h2, h3, h4⟩ := h
  rcases h4 with ⟨h4, h5⟩ | ⟨h4, h5⟩
  · by_cases hk : good = k
    · right
      have e : opF d n 0 = (2, { d with down := true }) := by
        unfold opF
        rw [if_neg (by rw [h4]; simp), if_neg (by rw [h3]; omega), if_neg (by simp), if_pos (by rw [h5]; omega)]
      rw [e]
      exact ⟨hk, rfl, rfl, h1, h2, h3, .inr ⟨rfl, hk⟩⟩
    · left
      have e : opF d n 0 = (0, { d with fuse := d.fuse - 1, ops := d.ops + 1 }) := by
        unfold opF
        rw [if_neg (by rw [h4]; simp), if_neg (by rw [h3]; omega), if_neg (by simp), if_neg (by rw [h5]; omega), if_pos (by rw [h5]; omega)]
      rw [e]
      refine ⟨by omega, rfl, ?_, by omega, h3, .inl ⟨h4, ?_⟩⟩
      · show d.ops + 1 = ((good + 1 : Nat) : Int); omega
      · show d.fuse - 1 = (k : Int) - ((good + 1 : Nat) : Int); omega
  · right
    have e : opF d n 0 = (2, d) := by
      unfold opF
      rw [if_pos h4]
    rw [e]
    exact ⟨h5, rfl, h4, h1, h2, h3, .inr ⟨h4, h5⟩⟩
theorem write_head (d : Dv) (n : Int) {b : Bk} (hb : b.length = 512) : (writeF d n b).1 = (opF d n 0).1 ∧ Head (opF d n 0).2 (writeF d n b).2 := by
  unfold writeF
  rw [if_pos hb]
  by_cases h : (opF d n 0).1 = 0
  · rw [if_pos h, h]; exact ⟨rfl, rfl, rfl, rfl, rfl⟩
  · rw [if_neg h]; exact ⟨rfl, rfl, rfl, rfl, rfl⟩
theorem flush_head (d : Dv) : (flushF d).1 = (opF d 0 0).1 ∧ Head (opF d 0 0).2 (flushF d).2 := by
  unfold flushF
  by_cases h : (opF d 0 0).1 = 0
  · rw [if_pos h, h]
    refine ⟨rfl, rfl, rfl, rfl, ?_⟩
    show ((List.range d.safe.length).map fun (j : Nat) => curF d (j : Int)).length = _
    rw [List.length_map, List.length_range, (opF_same d 0 0).1]
  · rw [if_neg h]; exact ⟨rfl, rfl, rfl, rfl, rfl⟩

def FuRes (k good : Nat) (x : Int) (d' : Dv) : Prop := (good < k ∧ x = 0 ∧ FuSt d' k (good + 1)) ∨ (good = k ∧ x = 2 ∧ d'.down = true ∧ FuSt d' k good)
section
variable {w W : World} {g : Nat} {ρ : Nat → Option DRol} {N : Nat} {d : Dv} {k good : Nat}
theorem FRead (hm : Mine w W g ρ N d) (hN : N ≤ 999999000) (hf : FuSt d k good) (n : Nat) (hn : n < 64) :
    Calls Try.prog 30 #[.pointer (some ⟨g, 0, none⟩), .int .i64 n] W fun e W' => ∃ (v : Value) (x : Int) (ρ' : Nat → Option DRol) (d' : Dv), e = .returned (.tuple #[v, .int .i64 x]) ∧ Mine w W' g ρ' (N + 2) d' ∧ FuRes k good x d' := by
  refine (MRead hm hN n (by omega)).mono ?_
  rintro e W' ⟨h1, h2, -⟩
  have h3 := hf.op (n := n) (by omega)
  rcases h1 with ⟨h4, rfl⟩ | ⟨h4, -, k', rfl, -⟩
  · exact ⟨_, _, ρ, _, rfl, h2.mono (by omega), h3⟩
  · rw [h4] at h3
    exact ⟨_, _, ρ, _, rfl, h2.mono (by omega), h3⟩
theorem FWrite (hm : Mine w W g ρ N d) (hN : N ≤ 999999000) (hf : FuSt d k good) (n : Nat) (hn : n < 64) (v : Value) (data : List UInt8) (hv : RdB W v data) (hvb : ∀ k, v.ownBlock = some k → ρ k = none) (hd : data.length = 512) :
    Calls Try.prog 27 #[.pointer (some ⟨g, 0, none⟩), .int .i64 n, v] W fun e W' => ∃ (x : Int) (ρ' : Nat → Option DRol) (d' : Dv), e = .returned (.int .i64 x) ∧ Mine w W' g ρ' (N + 2) d' ∧ FuRes k good x d' := by
  refine (MWrite hm hN n (by omega) v data hv hvb).mono ?_
  rintro e W' ⟨rfl, ⟨ρ', h2, -⟩, -⟩
  obtain ⟨h3, h4⟩ := write_head d n hd
  refine ⟨_, ρ', _, rfl, h2, ?_⟩
  rw [h3]
  rcases hf.op (n := n) (by omega) with ⟨h5, h6, h7⟩ | ⟨h5, h6, h7, h8⟩
  · exact .inl ⟨h5, h6, h7.head h4⟩
  · exact .inr ⟨h5, h6, by rw [h4.down]; exact h7, h8.head h4⟩
theorem FFlush (hm : Mine w W g ρ N d) (hN : N ≤ 999999000) (hf : FuSt d k good) :
    Calls Try.prog 32 #[.pointer (some ⟨g, 0, none⟩)] W fun e W' => ∃ (x : Int) (ρ' : Nat → Option DRol) (d' : Dv), e = .returned (.int .i64 x) ∧ Mine w W' g ρ' (N + 2) d' ∧ FuRes k good x d' := by
  refine (MFlush hm hN).mono ?_
  rintro e W' ⟨rfl, ⟨ρ', h2, -⟩, -⟩
  obtain ⟨h3, h4⟩ := flush_head d
  refine ⟨_, ρ', _, rfl, h2.mono (by omega), ?_⟩
  rw [h3]
  rcases hf.op (n := 0) (by omega) with ⟨h5, h6, h7⟩ | ⟨h5, h6, h7, h8⟩
  · exact .inl ⟨h5, h6, h7.head h4⟩
  · exact .inr ⟨h5, h6, by rw [h4.down]; exact h7, h8.head h4⟩
end

set_option maxRecDepth 100000 in
set_option maxHeartbeats 4000000 in
theorem blockdevFuses_any (w : World) (kk : Int) (hk : -9223372036854775808 ≤ kk ∧ kk ≤ 9223372036854775807) (v1 : Value) (zs : List Call2) (hv : RdS rCall2 w (fun k => k < w.heap.size) v1 zs) :
    Calls Try.prog 7 #[.int .i64 kk, v1] w fun e w' => e = .returned (.bool true) ∧ Ext w w' := by
  obtain ⟨va, vc, rfl, -⟩ := hv.slice
  have HV := hid hv
  have HK := hid hk
  clear hv hk
  go_enter Try.func7, Try.ntmps7
  go_wp2_with fail
  refine (awake02_any w).mono ?_
  rintro e w0 ⟨rfl, hx0⟩
  have HX0 := hid hx0
  have HV := hid ((HV.out.ext hx0).mono fun k h _ => Nat.lt_of_lt_of_le h hx0.size)
  clear hx0
  go_wp2_with fail
  refine (New64 w0).mono ?_
  rintro e w1 ⟨g, rfl, ρ, hm⟩
  have HM := hid hm
  clear hm
  go_wp2_with fail
  refine (Pick_any _ kk 40 HK.out (by omega) (by omega)).mono ?_
  rintro e w' ⟨rfl, rfl⟩
  have hkn := pickF_lt kk (40 : Int).toNat (by decide)
  generalize pickF kk (40 : Int).toNat = k at hkn ⊢
  have hkn : k < 40 := hkn
  have Q0 := hid Qt.new
  go_wp2_with fail
  refine (Fuse_any HM.out.dv (k : Int) (by omega)).mono ?_
  rintro e w2 ⟨rfl, hd2, hk2⟩
  have hm2 := HM.out.hd hd2 hk2
  have e1 : fuseF (dv0 64) k = (0, { dv0 64 with fuse := k }) := by
    unfold fuseF
    rw [if_neg (by show ¬ (false = true); simp), show max (k : Int) (-1) = k by omega]
  rw [e1] at hm2 ⊢
  have HM2 := hid hm2
  have F2 := hid (show FuSt { dv0 64 with fuse := (k : Int) } k 0 from ⟨rfl, Nat.zero_le _, Q0.out.len, .inl ⟨rfl, by show (k : Int) = (k : Int) - ((0 : Nat) : Int); omega⟩⟩)
  clear hm2 hd2 hk2 e1
  dsimp only
  go_wp2_with fail
  go_loopw [8, 9] (fun u8 u9 wr => ∃ (i good : Nat) (ρ : Nat → Option DRol) (d : Dv), u8 = .int .i64 good ∧ u9 = .int .i64 i ∧ i ≤ zs.length ∧ i ≤ 80 ∧ Mine w0 wr g ρ (2 * i) d ∧ FuSt d k good) (fun _ u9 _ => 80 - (intOf u9).toNat)
  case atStart => exact ⟨0, 0, ρ, _, rfl, rfl, Nat.zero_le _, Nat.zero_le _, HM2.out, F2.out⟩
  case round =>
    clear HM2 F2 Q0 HM
    obtain ⟨wo, rfl⟩ : ∃ wo : World, wo = wr := ⟨_, rfl⟩
    obtain ⟨i, good, ρ, d, rfl, rfl, hi, hi2, hm, hf⟩ := hrel
    have HM := hid hm
    have HF := hid hf
    have hgk : good ≤ k := hf.2.1
    clear hm hf
    by_cases hlt : i < zs.length ∧ i < 80
    · obtain ⟨hlt, hlt2⟩ := hlt
      obtain ⟨gl, ol, cl, pv, e, hgl, -, d0, -, d2, d3, -, -, b0, b2, b3, -, -⟩ := HV.out.atCall2 i hlt
      simp only [Value.slice.injEq] at e
      obtain ⟨rfl, -, rfl⟩ := e
      generalize zs[i] = z at d0 d2 d3 b0 b2 b3
      obtain ⟨zk, zt, zn, zf, zh, zp⟩ := z
      dsimp only at d0 d2 d3 b0 b2 b3
      have e0 := HM.out.ex.cellS d0
      have e2 := HM.out.ex.cellS d2
      have e3 := HM.out.ex.cellS d3
      have i1 : (i : Int) < (zs.length : Int) := by omega
      have i2 : (i : Int) < 80 := by omega
      clear d0 d2 d3
      go_wp2_with fail
      refine (Pick_any _ zn 64 b2 (by omega) (by omega)).mono ?_
      rintro e w' ⟨rfl, rfl⟩
      have hn := pickF_lt zn (64 : Int).toNat (by decide)
      generalize pickF zn (64 : Int).toNat = n at hn ⊢
      have hn : n < 64 := hn
      go_wp2_with fail
      refine (Pick_any _ zk 3 b0 (by omega) (by omega)).mono ?_
      rintro e w' ⟨rfl, rfl⟩
      have hkk := pickF_lt zk (3 : Int).toNat (by decide)
      generalize pickF zk (3 : Int).toNat = kd at hkk ⊢
      have hkd : kd = 0 ∨ kd = 1 ∨ kd = 2 := by have : (3 : Int).toNat = 3 := rfl; omega
      clear hkk
      rcases hkd with rfl | rfl | rfl
      · go_wp2_with fail
        refine (FRead HM.out (by omega) HF.out n hn).mono ?_
        rintro e w3 ⟨v3, x3, ρ3, d3, rfl, hm3, hres⟩
        have HRES := hid hres
        have HM3 := hid hm3
        clear hm3 hres
        rcases HRES.out with ⟨h5, rfl, h7⟩ | ⟨h5, rfl, h7, h8⟩
        · have h5' : (good : Int) < (k : Int) := by omega
          have hwg : IntKind.i64.wrap ((good : Int) + 1) = (good : Int) + 1 := by rw [IntKind.wrap_i64]; omega
          have HF3 := hid h7
          clear h7 HRES
          go_wp2_with fail
          exact ⟨⟨i + 1, good + 1, ρ3, d3, rfl, rfl, by omega, by omega, HM3.out.mono (by omega), HF3.out⟩, by simp only [intOf]; omega⟩
        · subst h5
          have h5' : ¬ (good : Int) < (good : Int) := by omega
          have HF3 := hid h8
          have HDN := hid h7
          clear h7 h8 HRES
          go_wp2_with fail
          refine (Down_any HM3.out.dv).mono ?_
          rintro e w3' ⟨rfl, rfl⟩
          rw [HDN.out]
          go_wp2_with fail
          exact ⟨⟨i + 1, good, ρ3, d3, rfl, rfl, by omega, by omega, HM3.out.mono (by omega), HF3.out⟩, by simp only [intOf]; omega⟩
      · go_wp2_with fail
        refine (Block_any wo zf b3 ⟨#[]⟩).mono ?_
        rintro e w2' ⟨rfl, hr2, hx2⟩
        have HM2 := hid (HM.out.ext hx2)
        have HR2 := hid (row_rdB hr2 (blockL_len _ _))
        have HL2 := hid (fun k (hk : (Value.slice (some ⟨wo.heap.size, 0, none⟩) 512 512).ownBlock = some k) => HM.out.late hx2 (k := k) (by simp only [Value.ownBlock, Option.some.injEq] at hk; omega))
        clear hr2 hx2
        go_wp2_with fail
        refine (FWrite HM2.out (by omega) HF.out n hn _ _ HR2.out HL2.out (blockL_len _ _)).mono ?_
        rintro e w3 ⟨x3, ρ3, d3, rfl, hm3, hres⟩
        have HRES := hid hres
        have HM3 := hid hm3
        clear hm3 hres
        rcases HRES.out with ⟨h5, rfl, h7⟩ | ⟨h5, rfl, h7, h8⟩
        · have h5' : (good : Int) < (k : Int) := by omega
          have hwg : IntKind.i64.wrap ((good : Int) + 1) = (good : Int) + 1 := by rw [IntKind.wrap_i64]; omega
          have HF3 := hid h7
          clear h7 HRES
          go_wp2_with fail
          exact ⟨⟨i + 1, good + 1, ρ3, d3, rfl, rfl, by omega, by omega, HM3.out.mono (by omega), HF3.out⟩, by simp only [intOf]; omega⟩
        · subst h5
          have h5' : ¬ (good : Int) < (good : Int) := by omega
          have HF3 := hid h8
          have HDN := hid h7
          clear h7 h8 HRES
          go_wp2_with fail
          refine (Down_any HM3.out.dv).mono ?_
          rintro e w3' ⟨rfl, rfl⟩
          rw [HDN.out]
          go_wp2_with fail
          exact ⟨⟨i + 1, good, ρ3, d3, rfl, rfl, by omega, by omega, HM3.out.mono (by omega), HF3.out⟩, by simp only [intOf]; omega⟩
      · go_wp2_with fail
        refine (FFlush HM.out (by omega) HF.out).mono ?_
        rintro e w3 ⟨x3, ρ3, d3, rfl, hm3, hres⟩
        have HRES := hid hres
        have HM3 := hid hm3
        clear hm3 hres
        rcases HRES.out with ⟨h5, rfl, h7⟩ | ⟨h5, rfl, h7, h8⟩
        · have h5' : (good : Int) < (k : Int) := by omega
          have hwg : IntKind.i64.wrap ((good : Int) + 1) = (good : Int) + 1 := by rw [IntKind.wrap_i64]; omega
          have HF3 := hid h7
          clear h7 HRES
          go_wp2_with fail
          exact ⟨⟨i + 1, good + 1, ρ3, d3, rfl, rfl, by omega, by omega, HM3.out.mono (by omega), HF3.out⟩, by simp only [intOf]; omega⟩
        · subst h5
          have h5' : ¬ (good : Int) < (good : Int) := by omega
          have HF3 := hid h8
          have HDN := hid h7
          clear h7 h8 HRES
          go_wp2_with fail
          refine (Down_any HM3.out.dv).mono ?_
          rintro e w3' ⟨rfl, rfl⟩
          rw [HDN.out]
          go_wp2_with fail
          exact ⟨⟨i + 1, good, ρ3, d3, rfl, rfl, by omega, by omega, HM3.out.mono (by omega), HF3.out⟩, by simp only [intOf]; omega⟩
    · have hex : ¬ (i : Int) < (zs.length : Int) ∨ ((i : Int) < (zs.length : Int) ∧ ¬ (i : Int) < 80) := by omega
      clear hlt
      obtain ⟨h1, h2, h3, h4⟩ := HF.out
      have hdc : d.down = true ∨ d.down = false := by cases d.down <;> simp
      have H1 := hid h1
      have H3 := hid h3
      clear h1 h3 h4
      rcases hex with i1 | ⟨i1, i2⟩
      all_goals
        go_wp2_with fail
        refine (Down_any HM.out.dv).mono ?_
        rintro e w3' ⟨rfl, rfl⟩
        go_wp2_with fail
        refine (MCrash HM.out (by omega) (fun _ => False) (.slice none 0 0) [] (RdS.nil _ _ _) (fun k hk _ => hk.elim)).mono ?_
        rintro e w4 ⟨rfl, hm4, -⟩
        obtain ⟨u4, s4, f4, l4⟩ := crash_up d []
        have ho4 : (crashF d []).ops = good := H1.out
        generalize crashF d [] = d4 at hm4 u4 s4 f4 l4 ho4
        have HM4 := hid hm4
        have C4 := hid (up_calm u4 f4)
        have L4 := hid (l4.trans H3.out)
        have HO4 := hid ho4
        clear hm4 u4 s4 f4 l4 ho4
        have hop : opF d4 0 0 = (0, { d4 with ops := d4.ops + 1 }) := opF_calm C4.out ⟨by omega, by rw [L4.out]; omega⟩
        have hwg : IntKind.i64.wrap ((good : Int) + 1) = (good : Int) + 1 := by rw [IntKind.wrap_i64]; omega
        have HOP := hid hop
        clear hop
        go_wp2_with fail
        refine (MRead HM4.out (by omega) 0 (by omega)).mono ?_
        rintro e w5 ⟨h5, hm5, -⟩
        rw [HOP.out] at h5 hm5
        have hm5 : Mine w0 w5 g ρ (2 * i + 1) { d4 with ops := d4.ops + 1 } := hm5
        rcases h5 with ⟨h, _⟩ | ⟨-, -, k5, rfl, -⟩
        · exact absurd rfl h
        have HM5 := hid hm5
        clear hm5 HOP
        go_wp2_with fail
        refine (Down_any HM5.out.dv).mono ?_
        rintro e w6 ⟨rfl, rfl⟩
        rw [show ({ d4 with ops := d4.ops + 1 } : Dv).down = false from C4.out.1]
        rcases hdc with hdc | hdc
        · rw [hdc]
          go_wp2_with fail
          refine (Ops_any HM5.out.dv).mono ?_
          rintro e w6 ⟨rfl, rfl⟩
          rw [show ({ d4 with ops := d4.ops + 1 } : Dv).ops = (good : Int) + 1 from by show d4.ops + 1 = _; rw [HO4.out]]
          go_wp2_with fail
          go_ret
          exact ⟨rfl, HX0.out.trans HM5.out.ex⟩
        · rw [hdc]
          go_wp2_with fail
          go_ret
          exact ⟨rfl, HX0.out.trans HM5.out.ex⟩
theorem blockdevFuses_walk (w : World) (kk : Int) (hk : -9223372036854775808 ≤ kk ∧ kk ≤ 9223372036854775807) (v1 : Value) (zs : List Call2) (hv : RdS rCall2 w (fun k => k < w.heap.size) v1 zs) :
    Calls Try.prog 7 #[.int .i64 kk, v1] w fun e w' => e = .returned (.bool true) ∧ Below w.heap.size w w' :=
  (blockdevFuses_any w kk hk v1 zs hv).mono fun e w' h => ⟨h.1, h.2.below⟩
end Go.Proofs.Ytgbiffpnfpdcoaa
