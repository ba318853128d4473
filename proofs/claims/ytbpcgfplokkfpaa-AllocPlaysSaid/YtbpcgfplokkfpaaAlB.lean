/- Maps of blocks as bytes, and runs in their wholes: plain laws, no program. -/
import Derived.Test.YtbpcgfplokkfpaaLaw
import Derived.Test.YtbpcgfplokkfpaaAlL
import Derived.Test.YtbpcgfplokkfpaaRunL
namespace Go.Proofs.Ytbpcgfplokkfpaa
set_option linter.unusedVariables false
set_option linter.unusedSimpArgs false

/-! ### bytes -/
/-- byte j, as far as its bit k -/
def byteTo (now : List Bool) (j : Nat) : Nat → Nat
  | 0 => 0
  | k + 1 => byteTo now j k + if now.getD (8 * j + k) false = true then 2 ^ k else 0
theorem byteTo_lt (now : List Bool) (j : Nat) : ∀ k, byteTo now j k < 2 ^ k
  | 0 => by simp [byteTo]
  | k + 1 => by
    have := byteTo_lt now j k
    rw [byteTo, Nat.pow_succ]
    split <;> omega
theorem byteTo_past {now : List Bool} {j k : Nat} (h : now.length ≤ 8 * j + k) : ∀ m, byteTo now j (k + m) = byteTo now j k
  | 0 => rfl
  | m + 1 => by
    rw [← Nat.add_assoc, byteTo, byteTo_past h m, List.getD_eq_getElem?_getD, List.getElem?_eq_none (by omega)]
    simp
def byteL (now : List Bool) (n j : Nat) : UInt8 := UInt8.ofNat (byteTo now j (min 8 (n - 8 * j)))
/-- the bytes of the blocks, as far as block n -/
def restTo (now : List Bool) (n : Nat) : List UInt8 := (List.range ((now.length + 7) / 8)).map (byteL now n)
def mapRest (now : List Bool) : List UInt8 := (List.range ((now.length + 7) / 8)).map fun j => UInt8.ofNat (byteTo now j 8)
def mapB (now : List Bool) : List UInt8 := putU now.length ++ mapRest now
theorem restTo_len (now : List Bool) (n : Nat) : (restTo now n).length = (now.length + 7) / 8 := by simp [restTo]
theorem mapRest_len (now : List Bool) : (mapRest now).length = (now.length + 7) / 8 := by simp [mapRest]
theorem mapB_len (now : List Bool) : (mapB now).length = (putU now.length).length + (now.length + 7) / 8 := by simp [mapB, mapRest_len]
theorem restTo_zero (now : List Bool) : restTo now 0 = List.replicate ((now.length + 7) / 8) 0 := by
  unfold restTo
  rw [List.eq_replicate_iff]
  refine ⟨by simp, fun b hb => ?_⟩
  obtain ⟨j, -, rfl⟩ := List.mem_map.1 hb
  simp [byteL, byteTo]
theorem restTo_all (now : List Bool) : restTo now now.length = mapRest now := by
  unfold restTo mapRest
  apply List.map_congr_left
  intro j hj
  unfold byteL
  congr 1
  rcases Nat.lt_or_ge (now.length - 8 * j) 8 with h | h
  · rw [Nat.min_eq_right (by omega)]
    obtain ⟨m, hm⟩ : ∃ m, 8 = (now.length - 8 * j) + m := ⟨8 - (now.length - 8 * j), by omega⟩
    have hj' := List.mem_range.1 hj
    have hp := byteTo_past (now := now) (j := j) (k := now.length - 8 * j) (by omega) m
    rw [← hm] at hp
    exact hp.symm
  · rw [Nat.min_eq_left h]
theorem restTo_at (now : List Bool) (n : Nat) (h : n < now.length) : (restTo now n)[n / 8]? = some (UInt8.ofNat (byteTo now (n / 8) (n % 8))) := by
  unfold restTo
  rw [List.getElem?_map, List.getElem?_range (by omega)]
  show some (byteL now n (n / 8)) = _
  unfold byteL
  rw [show min 8 (n - 8 * (n / 8)) = n % 8 from by omega]
theorem restTo_step (now : List Bool) (n : Nat) (h : n < now.length) : restTo now (n + 1) = (restTo now n).set (n / 8) (UInt8.ofNat (byteTo now (n / 8) (n % 8) + if now[n] = true then 2 ^ (n % 8) else 0)) := by
  apply List.ext_getElem?
  intro j
  rw [List.getElem?_set]
  unfold restTo
  simp only [List.length_map, List.length_range, List.getElem?_map]
  by_cases hj : j < (now.length + 7) / 8
  · rw [List.getElem?_range hj]
    by_cases he : n / 8 = j
    · subst he
      rw [if_pos rfl, if_pos hj]
      simp only [Option.map_some]
      congr 1
      unfold byteL
      rw [show min 8 (n + 1 - 8 * (n / 8)) = n % 8 + 1 from by omega, byteTo, show 8 * (n / 8) + n % 8 = n from by omega, List.getD_eq_getElem?_getD, List.getElem?_eq_getElem h]
      rfl
    · rw [if_neg he]
      simp only [Option.map_some]
      congr 1
      unfold byteL
      congr 2
      omega
  · rw [List.getElem?_eq_none (by simpa using hj)]
    split
    · rw [if_neg (by omega)]; rfl
    · rfl
theorem restTo_same (now : List Bool) (n : Nat) (h : n < now.length) (hb : now[n] = false) : restTo now (n + 1) = restTo now n := by
  rw [restTo_step now n h, hb]
  simp only [Bool.false_eq_true, if_false, Nat.add_zero]
  apply List.ext_getElem?
  intro j
  rw [List.getElem?_set]
  split
  · rename_i he
    subst he
    rw [restTo_len, if_pos (by omega), restTo_at now n h]
  · rfl
/-- bit i of some bytes -/
def bitAt (l : List UInt8) (i : Nat) : Bool := decide ((l.getD (i / 8) 0).toNat / 2 ^ (i % 8) % 2 = 1)
theorem byte_bits : ∀ (b0 b1 b2 b3 b4 b5 b6 b7 : Bool) (k : Fin 8), (((0 + (if b0 = true then 2 ^ 0 else 0) + (if b1 = true then 2 ^ 1 else 0) + (if b2 = true then 2 ^ 2 else 0) + (if b3 = true then 2 ^ 3 else 0) + (if b4 = true then 2 ^ 4 else 0) + (if b5 = true then 2 ^ 5 else 0) + (if b6 = true then 2 ^ 6 else 0) + (if b7 = true then 2 ^ 7 else 0)) / 2 ^ k.val % 2 = 1) ↔ [b0, b1, b2, b3, b4, b5, b6, b7].getD k.val false = true) := by decide +kernel
theorem bitAt_rest (now : List Bool) (i : Nat) (h : i < now.length) : bitAt (mapRest now) i = now[i] := by
  unfold bitAt
  have h1 : (mapRest now).getD (i / 8) 0 = UInt8.ofNat (byteTo now (i / 8) 8) := by
    unfold mapRest
    rw [List.getD_eq_getElem?_getD, List.getElem?_map, List.getElem?_range (by omega)]; rfl
  have h2 := byteTo_lt now (i / 8) 8
  rw [h1, UInt8.toNat_ofNat_of_lt' (by simpa using h2)]
  have h3 := byte_bits (now.getD (8 * (i / 8) + 0) false) (now.getD (8 * (i / 8) + 1) false) (now.getD (8 * (i / 8) + 2) false) (now.getD (8 * (i / 8) + 3) false) (now.getD (8 * (i / 8) + 4) false) (now.getD (8 * (i / 8) + 5) false) (now.getD (8 * (i / 8) + 6) false) (now.getD (8 * (i / 8) + 7) false) ⟨i % 8, by omega⟩
  have h4 : [now.getD (8 * (i / 8) + 0) false, now.getD (8 * (i / 8) + 1) false, now.getD (8 * (i / 8) + 2) false, now.getD (8 * (i / 8) + 3) false, now.getD (8 * (i / 8) + 4) false, now.getD (8 * (i / 8) + 5) false, now.getD (8 * (i / 8) + 6) false, now.getD (8 * (i / 8) + 7) false].getD (i % 8) false = now[i] := by
    have hk : i % 8 < 8 := by omega
    have e : now[i] = now.getD (8 * (i / 8) + i % 8) false := by
      rw [show 8 * (i / 8) + i % 8 = i from by omega, List.getD_eq_getElem?_getD, List.getElem?_eq_getElem h]; rfl
    rw [e]
    generalize i % 8 = k at hk ⊢
    match k, hk with
    | 0, _ => rfl
    | 1, _ => rfl
    | 2, _ => rfl
    | 3, _ => rfl
    | 4, _ => rfl
    | 5, _ => rfl
    | 6, _ => rfl
    | 7, _ => rfl
  rw [h4] at h3
  have h5 : (byteTo now (i / 8) 8 / 2 ^ (i % 8) % 2 = 1) ↔ now[i] = true := h3
  cases hn : now[i] <;> simp_all
/-- the blocks that some bytes tell of -/
def bitsOf (l : List UInt8) (n : Nat) : List Bool := (List.range n).map (bitAt l)
theorem bitsOf_len (l : List UInt8) (n : Nat) : (bitsOf l n).length = n := by simp [bitsOf]
theorem bitsOf_rest (now : List Bool) : bitsOf (mapRest now) now.length = now := by
  apply List.ext_getElem
  · simp [bitsOf]
  · intro i h1 h2
    have e : (bitsOf (mapRest now) now.length)[i] = bitAt (mapRest now) i := by simp [bitsOf]
    rw [e, bitAt_rest now i h2]
theorem mapB_uint (now : List Bool) (h : now.length ≤ 512) : uintF (mapB now) = (now.length, (putU now.length).length, 0) := uintF_putU _ (by omega) _
theorem mapB_drop (now : List Bool) : (mapB now).drop (putU now.length).length = mapRest now := by simp [mapB]
/-- the map that some bytes are, if they are one -/
def readM (l : List UInt8) : Option (List Bool) :=
  if (uintF l).2.2 = 0 ∧ (uintF l).1 ≤ 512 ∧ mapB (bitsOf (l.drop (uintF l).2.1) (uintF l).1) = l then some (bitsOf (l.drop (uintF l).2.1) (uintF l).1) else none
theorem readM_mapB (now : List Bool) (h : now.length ≤ 512) : readM (mapB now) = some now := by
  unfold readM
  rw [mapB_uint now h]
  dsimp only
  rw [mapB_drop, bitsOf_rest, if_pos ⟨rfl, h, rfl⟩]
theorem readM_some {l : List UInt8} {now : List Bool} (h : readM l = some now) : now.length ≤ 512 ∧ mapB now = l := by
  unfold readM at h
  split at h
  · rename_i hc
    cases h
    exact ⟨by rw [bitsOf_len]; exact hc.2.1, hc.2.2⟩
  · cases h
theorem readM_len {l : List UInt8} (h : (uintF l).2.2 = 0) (hn : (l.drop (uintF l).2.1).length ≠ ((uintF l).1 + 7) / 8) : readM l = none := by
  cases hr : readM l with
  | none => rfl
  | some now =>
    exfalso
    obtain ⟨h1, h2⟩ := readM_some hr
    subst h2
    rw [mapB_uint now h1] at hn
    dsimp only at hn
    rw [mapB_drop, mapRest_len] at hn
    exact hn rfl

/-- byte j from its top, m bits of it -/
def hornTo (now : List Bool) (j : Nat) : Nat → Nat
  | 0 => 0
  | m + 1 => 2 * hornTo now j m + if now.getD (8 * j + (7 - m)) false = true then 1 else 0
theorem horn_byte (now : List Bool) (j : Nat) : hornTo now j 8 = byteTo now j 8 := by
  simp only [hornTo, byteTo, Nat.sub_zero, Nat.reduceSub, Nat.add_zero]
  generalize (now.getD (8 * j) false) = b0
  generalize (now.getD (8 * j + 1) false) = b1
  generalize (now.getD (8 * j + 2) false) = b2
  generalize (now.getD (8 * j + 3) false) = b3
  generalize (now.getD (8 * j + 4) false) = b4
  generalize (now.getD (8 * j + 5) false) = b5
  generalize (now.getD (8 * j + 6) false) = b6
  generalize (now.getD (8 * j + 7) false) = b7
  revert b0 b1 b2 b3 b4 b5 b6 b7
  decide +kernel
theorem horn_lt (now : List Bool) (j : Nat) : ∀ m, hornTo now j m < 2 ^ m
  | 0 => by simp [hornTo]
  | m + 1 => by
    have := horn_lt now j m
    rw [hornTo, Nat.pow_succ]
    split <;> omega

/-! ### runs in their wholes -/
def runI (r : Nat × Nat) : Int × Int := ((r.1 : Int), (r.2 : Int))
theorem expand_run (r : Nat × Nat) : expand [runI r] = (List.range' r.1 r.2).map fun n : Nat => (n : Int) := by
  obtain ⟨a, k⟩ := r
  show expand [((a : Int), (k : Int))] = _
  rw [expand_one, List.range'_eq_map_range, List.map_map]
  apply List.map_congr_left
  intro j _
  simp
theorem expand_runs (rs : List (Nat × Nat)) : expand (rs.map runI) = (flat rs).map fun n : Nat => (n : Int) := by
  induction rs with
  | nil => rfl
  | cons r l ih =>
    rw [List.map_cons, expand_cons, ih, expand_run, show flat (r :: l) = List.range' r.1 r.2 ++ flat l from rfl, List.map_append]
theorem canon_putR : ∀ (rs : List (Nat × Nat)), Canon rs → (rs.map runI).foldl putR [] = rs.map runI := by
  have key : ∀ (n : Nat) (rs : List (Nat × Nat)), rs.length = n → Canon rs → (rs.map runI).foldl putR [] = rs.map runI := by
    intro n
    induction n with
    | zero => intro rs hn _; obtain rfl := List.eq_nil_of_length_eq_zero hn; rfl
    | succ n ih0 =>
    intro rs hn h
    rcases snoc_cases rs with rfl | ⟨l, r, rfl⟩
    · rfl
    have ih := ih0 l (by simpa using hn)
    have hl : Canon l := ⟨fun x hx => h.1 x (by simp [hx]), (List.pairwise_append.1 h.2).1⟩
    rw [List.map_append, List.foldl_append, ih hl, List.map_singleton, List.foldl_cons, List.foldl_nil]
    rcases snoc_cases l with rfl | ⟨a, k, rfl⟩
    · rfl
    · rw [List.map_append, List.map_singleton, putR_snoc, if_neg]
      have := (List.pairwise_append.1 h.2).2.2 k (by simp) r (by simp)
      simp only [runI]
      omega
  exact fun rs h => key _ rs rfl h
theorem canon_whole {rs : List (Nat × Nat)} (h : Canon rs) : rs.map runI = whole ((flat rs).map fun n : Nat => (n : Int)) := by
  rw [← expand_runs, ← whole_of _ (fun r hr => by
    obtain ⟨x, hx, rfl⟩ := List.mem_map.1 hr
    have := h.1 x hx
    simp only [runI]; omega), canon_putR rs h]
end Go.Proofs.Ytbpcgfplokkfpaa
