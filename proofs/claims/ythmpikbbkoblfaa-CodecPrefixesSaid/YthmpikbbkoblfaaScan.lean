/- codec.Scan, walked: rows of frames that the call makes. -/
import Derived.Test.YthmpikbbkoblfaaSame
import Derived.Test.YthmpikbbkoblfaaLaw
namespace Go.Proofs.Ythmpikbbkoblfaa
open Go.RowKit
set_option linter.unusedVariables false
set_option linter.unusedSimpArgs false
attribute [local go_sem ↓] Go.wp_at_zero Go.wp_at_succ

/-! ### the frames at the beginning of some bytes -/

def scanGo : Nat → List UInt8 → List (UInt8 × List UInt8) × Nat
  | 0, _ => ([], 0)
  | f + 1, l => if (frameF l).e ≠ 0 then ([], 0) else (((frameF l).kind, (frameF l).data) :: (scanGo f (l.drop (frameF l).n)).1, (frameF l).n + (scanGo f (l.drop (frameF l).n)).2)
def scanF (l : List UInt8) : List (UInt8 × List UInt8) × Nat := scanGo (l.length + 1) l

theorem frameF_n (l : List UInt8) (h : (frameF l).e = 0) : 6 ≤ (frameF l).n ∧ (frameF l).n ≤ l.length := by
  obtain ⟨h1, h2, h3⟩ := frameF_canon l h
  have := congrArg List.length h3
  rw [List.length_take, putF_length] at this
  have := putU_len (frameF l).data.length
  omega
theorem scanGo_more (f : Nat) : ∀ (g : Nat) (l : List UInt8), l.length < f → f ≤ g → scanGo g l = scanGo f l := by
  induction f with
  | zero => intro g l h; omega
  | succ f ih =>
    intro g l h hg
    obtain ⟨g, rfl⟩ : ∃ g', g = g' + 1 := ⟨g - 1, by omega⟩
    simp only [scanGo]
    by_cases he : (frameF l).e = 0
    · obtain ⟨h1, h2⟩ := frameF_n l he
      rw [ih g _ (by rw [List.length_drop]; omega) (by omega)]
    · rw [if_pos he, if_pos he]
theorem scanF_bad (l : List UInt8) (h : (frameF l).e ≠ 0) : scanF l = ([], 0) := by
  unfold scanF scanGo; rw [if_pos h]
theorem scanF_ok (l : List UInt8) (h : (frameF l).e = 0) : scanF l = (((frameF l).kind, (frameF l).data) :: (scanF (l.drop (frameF l).n)).1, (frameF l).n + (scanF (l.drop (frameF l).n)).2) := by
  obtain ⟨h1, h2⟩ := frameF_n l h
  have e : scanGo l.length (l.drop (frameF l).n) = scanF (l.drop (frameF l).n) := scanGo_more _ _ _ (by omega) (by rw [List.length_drop]; omega)
  conv => lhs; unfold scanF scanGo
  rw [if_neg (by simpa using h), e]

/-! ### rows of frames -/

def flatFr (gs : List (UInt8 × List UInt8 × Value)) : List Value := gs.flatMap fun g => [bv g.1, g.2.2]
theorem flatFr_length (gs : List (UInt8 × List UInt8 × Value)) : (flatFr gs).length = gs.length * 2 := by
  induction gs with
  | nil => rfl
  | cons g gs ih => simp only [flatFr, List.flatMap_cons, List.length_append, List.length_cons, List.length_nil] at ih ⊢; omega
theorem flatFr_get (gs : List (UInt8 × List UInt8 × Value)) : ∀ (i : Nat) (h : i < gs.length), (flatFr gs)[i * 2]? = some (bv gs[i].1) ∧ (flatFr gs)[i * 2 + 1]? = some gs[i].2.2 := by
  induction gs with
  | nil => intro i h; simp at h
  | cons g gs ih =>
    intro i h
    cases i with
    | zero => simp [flatFr]
    | succ i =>
      have := ih i (by simpa using h)
      rw [show (i + 1) * 2 = i * 2 + 2 from by omega, show i * 2 + 2 + 1 = i * 2 + 1 + 2 from by omega]
      simpa [flatFr] using this

def OwnF (w : World) (base : Nat) (v : Value) (fs : List (UInt8 × List UInt8)) : Prop :=
  ∃ gs : List (UInt8 × List UInt8 × Value), fs = gs.map (fun g => (g.1, g.2.1)) ∧ w.ownsRow base 31 2 v gs.length (flatFr gs) ∧
    ∀ g ∈ gs, RdB w g.2.2 g.2.1 ∧ (0 < g.2.1.length → ∀ k, g.2.2.ownBlock = some k → v.ownBlock ≠ some k)

theorem OwnF.nil (w : World) (base : Nat) : OwnF w base (.slice none 0 0) [] := ⟨[], rfl, World.ownsRow_nil _ _ _ _, by simp⟩

theorem OwnF.below {w w' : World} {base : Nat} {v : Value} {fs : List (UInt8 × List UInt8)} (h : OwnF w base v fs) (hb : Below w.heap.size w w') : OwnF w' base v fs := by
  obtain ⟨gs, h1, h2, h3⟩ := h
  exact ⟨gs, h1, own_belowS h2 hb, fun g hg => ⟨(h3 g hg).1.below hb, (h3 g hg).2⟩⟩

theorem OwnF.slice {w : World} {base : Nat} {v : Value} {fs : List (UInt8 × List UInt8)} (h : OwnF w base v fs) : ∃ a c, v = .slice a fs.length c := by
  obtain ⟨gs, rfl, h2, h3⟩ := h
  rcases h2.2 with ⟨rfl, h2⟩ | ⟨g, cap, cur, rfl, _⟩
  · exact ⟨none, 0, by rename_i h0; simp [h0]⟩
  · exact ⟨_, _, by rw [List.length_map]⟩

theorem OwnF.lt {w : World} {base : Nat} {v : Value} {fs : List (UInt8 × List UInt8)} (h : OwnF w base v fs) (k : Nat) (hk : v.ownBlock = some k) : base ≤ k ∧ k < w.heap.size := by
  obtain ⟨gs, rfl, h2, h3⟩ := h
  exact h2.lt k hk

theorem OwnF.rdF {w : World} {base : Nat} {v : Value} {fs : List (UInt8 × List UInt8)} (h : OwnF w base v fs) : RdF w v fs := by
  obtain ⟨gs, rfl, h2, h3⟩ := h
  obtain ⟨a, cap, rfl, r1, r2, r3, r4⟩ := rd_of_own h2
  refine ⟨a, cap, by rw [List.length_map], by rw [List.length_map]; exact r1, by unfold maxLen at r2; omega, fun h0 => ?_, fun i hi g o ha => ?_⟩
  · obtain ⟨g, o, e, hg, _⟩ := r4 (by simpa using h0)
    exact ⟨g, o, e, hg⟩
  · have hi' : i < gs.length := by simpa using hi
    obtain ⟨g', o', e, hg, hc⟩ := r4 (by omega)
    rw [ha] at e
    cases e
    obtain ⟨e1, e2⟩ := flatFr_get gs i hi'
    refine ⟨by rw [hc _ (by omega), e1, List.getElem_map]; rfl, gs[i].2.2, by rw [Nat.add_assoc, hc _ (by omega), e2], ?_⟩
    rw [List.getElem_map]
    exact (h3 _ (List.getElem_mem hi')).1

theorem RdB.grow {w w' : World} {v : Value} {l : List UInt8} {row : Option Nat} (h : RdB w v l) (hg : w.grownBy w' row) (hr : 0 < l.length → ∀ k, v.ownBlock = some k → row ≠ some k) : RdB w' v l := by
  obtain ⟨a, cap, rfl, h1, h2, h3, h4⟩ := h
  refine ⟨a, cap, rfl, h1, h2, h3, fun hn => ?_⟩
  obtain ⟨g, o, rfl, hgl, hc⟩ := h4 hn
  refine ⟨g, o, rfl, Nat.lt_of_lt_of_le hgl hg.size, fun j hj => ?_⟩
  rw [block_ext (hg.block g hgl (fun e => hr hn g rfl e.symm)), hc j hj]

theorem infoFr : (Try.prog.info? 31).map (fun i => (i.zero, i.size, i.bytes)) = some (some (.agg #[.int .u8 0, .slice none 0 0]), 2, 32) := by kernel_rfl

theorem flatFr_one (gs : List (UInt8 × List UInt8 × Value)) (h : ∀ g ∈ gs, g.2.2.oneCell' = true) : ∀ u ∈ flatFr gs, u.oneCell' = true := by
  intro u hu
  obtain ⟨g, hg, hu⟩ := List.mem_flatMap.1 hu
  simp only [List.mem_cons, List.not_mem_nil, or_false] at hu
  rcases hu with rfl | rfl
  · rfl
  · exact h g hg

/-- append of one frame -/
theorem wl_appF {w : World} {ops : Array Oper} {rest : List Oper} {o : Oper} {a : Act} {Q : Exit → Act → World → Prop} (hgd : o.guard = none) (s x : Operand) (tx : TypeId)
    (ho : o.op = .call { callee := .builtin .append, args := #[s, x], argTypes := #[39, tx] }) (base : Nat)
    (v : Value) (fs : List (UInt8 × List UInt8)) (hs : a.eval s = v) (happ : OwnF w base v fs)
    (y : Value) (k : UInt8) (dv : Value) (l : List UInt8) (hx : a.eval x = y) (hsrc : Src Try.prog 2 tx y 1 [bv k, dv] w) (hrd : RdB w dv l)
    (hne : 0 < l.length → ∀ b, dv.ownBlock = some b → v.ownBlock ≠ some b)
    (hbytes : (fs.length + 1) * 32 ≤ 140737488355328) (hbase : base ≤ w.heap.size)
    (h : ∀ v' w', OwnF w' base v' (fs ++ [(k, l)]) → w.grownBy w' v.ownBlock → Below base w w' → (∀ k, v'.ownBlock = some k → v.ownBlock = some k ∨ w.heap.size ≤ k) → wpList Try.prog ops Q rest (a.put o.dst v') w') : wpList Try.prog ops Q (o :: rest) a w := by
  obtain ⟨i0, hi, hz0, hz1, hz2⟩ := info_parts infoFr
  obtain ⟨gs, rfl, g2, g3⟩ := happ
  rw [List.length_map] at hbytes
  have hone : dv.oneCell' = true := by obtain ⟨a, c, rfl, _⟩ := hrd; rfl
  refine wpList_plain hgd fun _ hK => wp_append_app s x 39 tx ho base 31 i0 (.agg #[.int .u8 0, .slice none 0 0]) 2 32 Try.underlying39 hi hz0 hz1 hz2 rfl v gs.length (flatFr gs) hs (.inl g2) (flatFr_one gs fun g hg => by obtain ⟨a, c, e, _⟩ := (g3 g hg).1; rw [e]; rfl) y 1 [bv k, dv] hx hsrc (by omega) (by omega) hbase ?_
  intro v' w' h1 h2 h3 h4 h5 h6
  refine hK _ _ (h v' w' ⟨gs ++ [(k, l, dv)], by simp, ?_, fun g hg => ?_⟩ h4 h5 h6)
  · have := h2 (by omega)
    have e : flatFr (gs ++ [(k, l, dv)]) = flatFr gs ++ [bv k, dv] := by simp [flatFr]
    rw [e, List.length_append]
    exact this
  · have all : RdB w g.2.2 g.2.1 ∧ (0 < g.2.1.length → ∀ k, g.2.2.ownBlock = some k → v.ownBlock ≠ some k) := by
      rcases List.mem_append.1 hg with hg | hg
      · exact g3 g hg
      · obtain rfl := List.mem_singleton.1 hg
        exact ⟨hrd, hne⟩
    refine ⟨all.1.grow h4 all.2, fun hn b hb hv => ?_⟩
    rcases h6 b hv with hh | hh
    · exact all.2 hn b hb hh
    · have := Rd.block_lt all.1 hn b hb
      omega

theorem src_fr (w : World) (g : Nat) (k : UInt8) (dv : Value) (hg : w.heap.size = g) (hone : dv.oneCell' = true) : Src Try.prog 2 39 (.slice (some ⟨g, 0, none⟩) 1 1) 1 [bv k, dv] (w.alloc (.cells #[.int .u8 ((k.toNat : Nat) : Int), dv] 31)) := by
  subst hg
  refine Src.ofSlice _ Try.underlying39 ⟨w.heap.size, 0, none⟩ 1 1 [bv k, dv] rfl (fun j u hu => ?_) (fun u hu => ?_)
  · match j with
    | 0 => simp [bv] at hu; subst hu; simp [Addr.add, go_sem]
    | 1 => simp at hu; subst hu; simp [Addr.add, go_sem]
    | j + 2 => simp at hu
  · simp only [List.mem_cons, List.not_mem_nil, or_false] at hu
    rcases hu with rfl | rfl
    · rfl
    · exact hone

def ScanEnd (l : List UInt8) (w : World) (e : Ending) (w' : World) : Prop :=
  ∃ v', e = .returned (.tuple #[v', .int .i64 (((scanF l).2 : Nat) : Int)]) ∧ OwnF w' w.heap.size v' (scanF l).1 ∧ Below w.heap.size w w'

set_option maxRecDepth 100000 in
set_option maxHeartbeats 1000000 in
theorem Scan_any (w : World) (v : Value) (l : List UInt8) (hv : RdB w v l) (hl : l.length ≤ 4398046511104) :
    Calls Try.prog 31 #[v] w (ScanEnd l w) := by
  have HV := hid hv
  obtain ⟨a, cap, rfl, h1, h2, h3, h4⟩ := id hv
  have h2 : cap ≤ 9223372036854775807 := by unfold maxLen at h2; omega
  clear h3 h4 hv
  have HN : Hid (OwnF w w.heap.size (.slice none 0 0) []) := OwnF.nil _ _
  go_enter Try.func31, Try.ntmps31
  go_wp2_with fail
  go_loopw [4, 5] (fun u at_ wr => ∃ k fs, k ≤ l.length ∧ at_ = .int .i64 (k : Nat) ∧ scanF l = (fs ++ (scanF (l.drop k)).1, k + (scanF (l.drop k)).2) ∧ fs.length * 6 ≤ k ∧ OwnF wr w.heap.size u fs ∧ Below w.heap.size w wr) (fun _ at_ _ => l.length - (intOf at_).toNat)
  case atStart => exact ⟨0, [], by omega, rfl, by simp, by simp, HN.out, Below.refl _ _⟩
  case round =>
    obtain ⟨k, fs, hk, rfl, heq, hf6, hown, hbel⟩ := hrel
    have HE := hid heq
    have HO := hid hown
    have hbs := hbel.size
    have HVr := hid (HV.out.below hbel)
    have HD := hid (RdB.drop HVr.out k hk)
    have hlen : (l.drop k).length = l.length - k := by simp
    rw [← hlen] at HD
    obtain ⟨af, cf, rfl⟩ := hown.slice
    clear heq hown
    by_cases he : (frameF (l.drop k)).e = 0
    · have hok := scanF_ok _ he
      obtain ⟨n1, n2⟩ := frameF_n _ he
      generalize hF : frameF (l.drop k) = F at he hok n1 n2
      obtain ⟨fk, fd, fn, fe⟩ := F
      dsimp only at he hok n1 n2
      subst he
      have HF := hid hF
      have HK := hid hok
      clear hF hok
      go_wp2_with (first | ((with_reducible refine at_slice ?_); go_must (refine wl_slice_l rfl rfl Try.underlying22 sizeU8 rfl rfl k rfl ?_ ?_; omega)) | (go_at_call 23; rw [← hlen]; go_must (refine (Frame_any _ _ (l.drop k) HD.out (by omega)).mono ?_; rw [HF.out]; rintro e w8 ⟨dv, rfl, hod, hb8⟩; obtain ⟨da, dc, rfl⟩ := hod.slice; dsimp only at hod; have HOD := hid hod; have HO8 := hid (HO.out.below hb8); have hbel8 := hid (hbel.trans (hb8.mono hbs)); have hs8 := hb8.size; have HO9 := hid ((HO8.out.below ((Below.refl w8.heap.size w8).alloc (Nat.le_refl _) (.cells #[.int .u8 ((fk.toNat : Nat) : Int), .slice da fd.length dc] 31))).below ((Below.refl _ _).alloc (Nat.le_refl _) (.cells #[.int .u8 ((fk.toNat : Nat) : Int), .slice da fd.length dc] 31))); have HD9 := hid (((rdB_own HOD.out).alloc (.cells #[.int .u8 ((fk.toNat : Nat) : Int), .slice da fd.length dc] 31)).alloc (.cells #[.int .u8 ((fk.toNat : Nat) : Int), .slice da fd.length dc] 31)); have HS9 := hid (src_fr (w8.alloc (.cells #[.int .u8 ((fk.toNat : Nat) : Int), .slice da fd.length dc] 31)) (w8.heap.size + 1) fk (.slice da fd.length dc) (by simp) rfl); clear hod)) | (at_builtin; go_must (refine wl_appF rfl _ _ _ rfl w.heap.size _ fs rfl HO9.out _ fk (.slice da fd.length dc) fd rfl HS9.out HD9.out (fun hn b hb hv => by have h1 := (HOD.out.lt b hb).1; have h2 := (HO.out.lt b hv).2; omega) (by omega) (by simp; omega) ?_; intro v9 w9 k1 k4 k5 k6)))
      go_roundw
      case rel =>
        refine ⟨k + fn, fs ++ [(fk, fd)], by simp at n2; omega, by go_num, ?_, by simp; omega, k1, ?_⟩
        · rw [HE.out, HK.out, List.drop_drop]; simp [Nat.add_assoc]
        · exact (hbel8.out.alloc (by omega) _ |>.alloc (by simp; omega) _).trans k5
      case measure => simp [intOf]; simp at n2; omega
    · have hbad := scanF_bad _ he
      have hn0 := (frameF_bad _ he).1
      generalize hF : frameF (l.drop k) = F at he hn0
      obtain ⟨fk, fd, fn, fe⟩ := F
      dsimp only at he hn0
      subst hn0
      have HF := hid hF
      have HK := hid hbad
      clear hF hbad
      have he1 : ¬ ((fe : Int) = 0) := by omega
      have he2 : ((fe : Int) == 0) = false := by simp; omega
      have he3 : ((fe : Int) != 0) = true := by simp; omega
      go_wp2_with (first | ((with_reducible refine at_slice ?_); go_must (refine wl_slice_l rfl rfl Try.underlying22 sizeU8 rfl rfl k rfl ?_ ?_; omega)) | (go_at_call 23; rw [← hlen]; go_must (refine (Frame_any _ _ (l.drop k) HD.out (by omega)).mono ?_; rw [HF.out]; rintro e w8 ⟨dv, rfl, hod, hb8⟩; obtain ⟨da, dc, rfl⟩ := hod.slice; dsimp only at hod; have HO8 := hid (HO.out.below hb8); have hbel8 := hid (hbel.trans (hb8.mono hbs)); have hs8 := hb8.size; clear hod)))
      go_ret2
      refine ⟨_, by rw [HE.out, HK.out]; rfl, ?_, hbel8.out.alloc (by omega) _⟩
      rw [HE.out, HK.out]
      simpa using HO8.out.below ((Below.refl _ _).alloc (Nat.le_refl _) _)
end Go.Proofs.Ythmpikbbkoblfaa
