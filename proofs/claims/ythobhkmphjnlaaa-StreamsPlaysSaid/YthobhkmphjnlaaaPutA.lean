/- Rows of bytes of the call's own; codec.room, codec.PutUint, walked. -/
import Derived.Test.YthobhkmphjnlaaaProg
import Derived.Test.YthobhkmphjnlaaaMem
import Derived.Test.YthobhkmphjnlaaaSpec
namespace Go.Proofs.Ythobhkmphjnlaaa
open Go.RowKit
set_option linter.unusedVariables false
set_option linter.unusedSimpArgs false

/-- v is a []byte of the call's own (from block base on) that holds l -/
def OwnB (w : World) (base : Nat) (v : Value) (l : List UInt8) : Prop := w.ownsRow base 5 1 v l.length (bvs l)
def AppB (w : World) (base : Nat) (v : Value) (l : List UInt8) : Prop := App w base 5 1 v l.length (bvs l)
/-- the ending of a call that hands back new bytes -/
def NewB (l : List UInt8) (w : World) (e : Ending) (w' : World) : Prop := ∃ v', e = .returned v' ∧ OwnB w' w.heap.size v' l ∧ Below w.heap.size w w'

theorem infoU8 : (Try.prog.info? 5).map (fun i => (i.zero, i.size, i.bytes)) = some (some (.int .u8 0), 1, 1) := by kernel_rfl

/-- append to a []byte -/
theorem wp_appB {w : World} {o : Oper} {a : Act} {K : Act → World → Prop} {Q : Exit → Act → World → Prop} (s x : Operand) (tx : TypeId)
    (ho : o.op = .call { callee := .builtin .append, args := #[s, x], argTypes := #[54, tx] }) (base : Nat)
    (v : Value) (l : List UInt8) (hs : a.eval s = v) (happ : AppB w base v l)
    (y : Value) (m : List UInt8) (hx : a.eval x = y) (hsrc : Src Try.prog 1 tx y m.length (bvs m) w)
    (hbytes : l.length + m.length ≤ 140737488355328) (hbase : base ≤ w.heap.size)
    (h : ∀ v' w', AppB w' base v' (l ++ m) → (0 < m.length → OwnB w' base v' (l ++ m)) → (OwnB w base v l → OwnB w' base v' (l ++ m)) →
      w.grownBy w' v.ownBlock → Below base w w' → (∀ k, v'.ownBlock = some k → v.ownBlock = some k ∨ w.heap.size ≤ k) → K (a.put o.dst v') w') : o.wp Try.prog a w K Q := by
  obtain ⟨i0, hi, hz0, hz1, hz2⟩ := info_parts infoU8
  refine wp_append_app s x 54 tx ho base 5 i0 (.int .u8 0) 1 1 Try.underlying54 hi hz0 hz1 hz2 rfl v l.length (bvs l) hs happ (bvs_oneCell l) y m.length (bvs m) hx hsrc (by omega) (by omega) hbase ?_
  intro v' w' h1 h2 h3 h4 h5 h6
  rw [← List.length_append, ← bvs_append] at h1 h2 h3
  exact h v' w' h1 h2 h3 h4 h5 h6
theorem wl_appB {w : World} {ops : Array Oper} {rest : List Oper} {o : Oper} {a : Act} {Q : Exit → Act → World → Prop} (hgd : o.guard = none) (s x : Operand) (tx : TypeId)
    (ho : o.op = .call { callee := .builtin .append, args := #[s, x], argTypes := #[54, tx] }) (base : Nat)
    (v : Value) (l : List UInt8) (hs : a.eval s = v) (happ : AppB w base v l)
    (y : Value) (m : List UInt8) (hx : a.eval x = y) (hsrc : Src Try.prog 1 tx y m.length (bvs m) w)
    (hbytes : l.length + m.length ≤ 140737488355328) (hbase : base ≤ w.heap.size)
    (h : ∀ v' w', AppB w' base v' (l ++ m) → (0 < m.length → OwnB w' base v' (l ++ m)) → (OwnB w base v l → OwnB w' base v' (l ++ m)) →
      w.grownBy w' v.ownBlock → Below base w w' → (∀ k, v'.ownBlock = some k → v.ownBlock = some k ∨ w.heap.size ≤ k) → wpList Try.prog ops Q rest (a.put o.dst v') w') : wpList Try.prog ops Q (o :: rest) a w :=
  wpList_plain hgd fun _ hK => wp_appB s x tx ho base v l hs happ y m hx hsrc hbytes hbase fun v' w' h1 h2 h3 h4 h5 h6 => hK _ _ (h v' w' h1 h2 h3 h4 h5 h6)
theorem step_appB {w : World} {ops : Array Oper} {o : Oper} {a : Act} {K : Act → World → Prop} {Q : Exit → Act → World → Prop} {E : Prop} (hgd : o.guard = none) (s x : Operand) (tx : TypeId)
    (ho : o.op = .call { callee := .builtin .append, args := #[s, x], argTypes := #[54, tx] }) (base : Nat)
    (v : Value) (l : List UInt8) (hs : a.eval s = v) (happ : AppB w base v l)
    (y : Value) (m : List UInt8) (hx : a.eval x = y) (hsrc : Src Try.prog 1 tx y m.length (bvs m) w)
    (hbytes : l.length + m.length ≤ 140737488355328) (hbase : base ≤ w.heap.size)
    (h : ∀ v' w', AppB w' base v' (l ++ m) → (0 < m.length → OwnB w' base v' (l ++ m)) → (OwnB w base v l → OwnB w' base v' (l ++ m)) →
      w.grownBy w' v.ownBlock → Below base w w' → (∀ k, v'.ownBlock = some k → v.ownBlock = some k ∨ w.heap.size ≤ k) → K (a.put o.dst v') w') :
    if Region.wanted o (yielded ops a.tmps) = true then Oper.wp Try.prog o a w K Q else E := by
  have hw : Region.wanted o (yielded ops a.tmps) = true := by simp [Region.wanted, hgd]
  rw [if_pos hw]
  exact wp_appB s x tx ho base v l hs happ y m hx hsrc hbytes hbase h
theorem sizeU8 : (Try.prog.info? 5).map (·.size) = some 1 := by kernel_rfl

/-- string(b) -/
theorem run_strB {w : World} {v : Value} {l : List UInt8} (h : RdB w v l) : (convert 54 9 v).run Try.prog w = .ok (.string ⟨l.toArray⟩) w := by
  obtain ⟨a, cap, rfl, _⟩ := id h
  rw [run_convert_bytes_string w _ _ 5 a _ cap Try.underlying54 Try.underlying5 Try.underlying9]
  exact run_str h

/-- one byte as a source: what buildSlice has laid -/
theorem src_one (w : World) (b : UInt8) (n : Int) (hn : n = b.toNat) : Src Try.prog 1 54 (.slice (some ⟨w.heap.size, 0, none⟩) 1 1) [b].length (bvs [b]) (w.alloc (.cells #[.int .u8 n] 5)) := by
  subst hn
  refine Src.ofSlice _ Try.underlying54 ⟨w.heap.size, 0, none⟩ 1 1 (bvs [b]) rfl (fun j u hu => ?_) (bvs_oneCell _)
  cases j with
  | zero => simp [bvs, bv] at hu; subst hu; simp [Addr.add, go_sem]
  | succ j => simp [bvs] at hu

set_option maxRecDepth 100000 in
set_option maxHeartbeats 400000 in
theorem room_any (a : Option Addr) (len cap : Nat) (w : World) (h1 : len ≤ cap) (_h2 : cap ≤ 9223372036854775807) :
    Calls Try.prog 59 #[.slice a len cap] w fun e w' => e = .returned (.slice a len len) ∧ w = w' := by
  go_enter Try.func59, Try.ntmps59
  go_wp2
  go_ret
  exact ⟨rfl, rfl⟩

set_option maxRecDepth 100000 in
set_option maxHeartbeats 400000 in
theorem PutUint_any (w : World) (v : Value) (l : List UInt8) (n : Nat) (hv : RdB w v l) (hn : n ≤ 18446744073709551615) (hl : l.length + 10 ≤ 140737488355328) :
    Calls Try.prog 58 #[v, .int .u64 n] w (NewB (l ++ putU n) w) := by
  obtain ⟨a, cap, rfl, h1, h2, h3, h4⟩ := id hv
  have h2 : cap ≤ 9223372036854775807 := by unfold maxLen at h2; omega
  have Happ : AppB w w.heap.size (.slice a l.length l.length) l := full_app hv
  go_enter Try.func58, Try.ntmps58
  go_wp2_with (go_at_call 59; refine (room_any _ _ _ _ h1 h2).mono ?_; rintro e w' ⟨rfl, rfl⟩)
  clear h3 h4
  go_loopw [0, 1] (fun b x wr => ∃ f m bs, m < 2 * 128 ^ f ∧ bs ++ putUk f m = l ++ putU n ∧ x = .int .u64 (m : Nat) ∧ AppB wr w.heap.size b bs ∧ Below w.heap.size w wr) (fun _ x _ => (intOf x).toNat)
  case atStart => exact ⟨9, n, l, by omega, rfl, rfl, Happ, Below.refl _ _⟩
  case round =>
    obtain ⟨f, m, bs, hm, heq, rfl, hb, hbel⟩ := hrel
    have HE := hid heq
    have hlen : bs.length + 1 ≤ l.length + 10 := by
      have h1 := congrArg List.length heq
      simp only [List.length_append] at h1
      have h2 := putUk_len f m
      have h3 := putU_len n
      omega
    clear heq
    have hbs := hbel.size
    by_cases hlt : m < 128
    · have Hs1 := hid (show ((m : Nat) : Int) = ((UInt8.ofNat m).toNat : Int) by rw [UInt8.toNat_ofNat', Nat.mod_eq_of_lt (by omega)])
      go_wp2_with (at_builtin; go_must (refine wl_appB rfl _ _ _ rfl w.heap.size u0 bs rfl (hb.alloc _) _ [UInt8.ofNat m] rfl (src_one wr _ _ Hs1.out) ?_ ?_ ?_; (first | omega | (simp only [List.length_cons, List.length_nil, List.length_append, le32]; omega)); (first | omega | (simp only [World.alloc, Array.size_push]; omega)); intro v' w' k1 k2 k3 k4 k5 k6))
      go_ret
      refine ⟨v', rfl, ?_, hbel.trans (((Below.refl _ _).alloc hbs _).trans k5)⟩
      rw [← HE.out, putUk_small hlt]
      exact k2 (by simp)
    · have hf : ∃ f', f = f' + 1 := by
        cases f with
        | zero => simp at hm; omega
        | succ f' => exact ⟨f', rfl⟩
      obtain ⟨f', rfl⟩ := hf
      have Hs1 := hid (show bits BinOp.or IntKind.u8 ((m : Int) % 256) 128 = ((UInt8.ofNat (m % 128 + 128)).toNat : Int) by
        have := or128 m
        rw [UInt8.toNat_ofNat', Nat.mod_eq_of_lt (by omega), ← this]
        congr 1)
      go_wp2_with (at_builtin; go_must (refine wl_appB rfl _ _ _ rfl w.heap.size u0 bs rfl (hb.alloc _) _ [UInt8.ofNat (m % 128 + 128)] rfl (src_one wr _ _ Hs1.out) ?_ ?_ ?_; (first | omega | (simp only [List.length_cons, List.length_nil, List.length_append, le32]; omega)); (first | omega | (simp only [World.alloc, Array.size_push]; omega)); intro v' w' k1 k2 k3 k4 k5 k6))
      go_roundw
      case rel =>
        refine ⟨f', m / 128, bs ++ [UInt8.ofNat (m % 128 + 128)], ?_, ?_, ?_, k1, hbel.trans (((Below.refl _ _).alloc hbs _).trans k5)⟩
        · rw [Nat.pow_succ] at hm; omega
        · rw [← HE.out, putUk_step hlt]; simp
        · go_num
      case measure => simp [intOf]; omega

/-- bytes as a source: what buildSlice has laid -/
theorem src_blk (w : World) (cells : Array Value) (l : List UInt8) (n : Nat) (hn : n = l.length) (h : cells.toList = bvs l) : Src Try.prog 1 54 (.slice (some ⟨w.heap.size, 0, none⟩) n n) l.length (bvs l) (w.alloc (.cells cells 5)) := by
  subst hn
  refine Src.ofSlice _ Try.underlying54 ⟨w.heap.size, 0, none⟩ _ _ (bvs l) (by simp) (fun j u hu => ?_) (bvs_oneCell _)
  rw [show (⟨w.heap.size, 0, none⟩ : Addr).add j = ⟨w.heap.size, j, none⟩ from by unfold Addr.add; split <;> simp_all]
  rw [← h] at hu
  simpa [go_sem] using hu

/-- what a new block of bytes reads as -/
theorem rdB_blk (w : World) (g : Nat) (cells : Array Value) (t : TypeId) (l : List UInt8) (n : Nat) (hg : w.heap.size = g) (hn : n = l.length) (hm : n ≤ 9223372036854775807) (h : cells.toList = bvs l) (fr : Nat × Nat := (0, 0)) : RdB (w.alloc (.cells cells t fr)) (.slice (some ⟨g, 0, none⟩) n n) l := by
  subst hn
  subst hg
  refine ⟨_, _, rfl, Nat.le_refl _, by unfold maxLen; omega, by simp, fun _ => ⟨_, _, rfl, by simp, fun j hj => ?_⟩⟩
  rw [Nat.zero_add, cell_of_row _ _ _ _ _ _ (heap_alloc_new w _), ← h]
  simp

/-- a string as a source -/
theorem src_str (w : World) (s : ByteArray) : Src Try.prog 1 9 (.string s) s.data.toList.length (bvs s.data.toList) w := by
  have h := Src.ofString (P := Try.prog) w (tx := 9) Try.underlying9 s
  rwa [show s.size = s.data.toList.length from by rw [Array.length_toList]; rfl] at h

/-- a []byte as a source -/
theorem src_B {w : World} {x : Value} {m : List UInt8} (h : RdB w x m) : Src Try.prog 1 54 x m.length (bvs m) w := src_rd Try.underlying54 h (bvs_oneCell m)
theorem OwnB.low {w : World} {base base' : Nat} {v : Value} {l : List UInt8} (h : OwnB w base v l) (hb : base' ≤ base) : OwnB w base' v l := own_base h hb

theorem OwnB.slice {w : World} {base : Nat} {v : Value} {l : List UInt8} (h : OwnB w base v l) : ∃ a c, v = .slice a l.length c := by
  rcases h.2 with ⟨rfl, h2⟩ | ⟨g, cap, cur, rfl, _⟩
  · exact ⟨none, 0, by rw [h2]⟩
  · exact ⟨_, _, rfl⟩

theorem rdB_own {w : World} {base : Nat} {v : Value} {l : List UInt8} (h : OwnB w base v l) : RdB w v l := rd_of_own h
theorem appB_own {w : World} {base : Nat} {v : Value} {l : List UInt8} (h : OwnB w base v l) : AppB w base v l := .inl h

end Go.Proofs.Ythobhkmphjnlaaa
