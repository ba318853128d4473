/- What the functions of package codec come to, as plain functions on lists of bytes. No program in sight. -/
import Derived.WalkKit
import Derived.Laws.BitsAllLaws
namespace Go.Proofs.Ythobhkmphjnlaaa

/-! ### numbers -/

def putUk : Nat → Nat → List UInt8
  | 0, n => [UInt8.ofNat n]
  | k + 1, n => if n < 128 then [UInt8.ofNat n] else UInt8.ofNat (n % 128 + 128) :: putUk k (n / 128)
/-- P1.1: a number's bytes -/
def putU (n : Nat) : List UInt8 := putUk 9 n

theorem putUk_len (k n : Nat) : 1 ≤ (putUk k n).length ∧ (putUk k n).length ≤ k + 1 := by
  induction k generalizing n with
  | zero => simp [putUk]
  | succ k ih =>
    unfold putUk
    split
    · simp
    · have := ih (n / 128); simp; omega
theorem putU_len (n : Nat) : 1 ≤ (putU n).length ∧ (putU n).length ≤ 10 := putUk_len 9 n

theorem putUk_small {k n : Nat} (h : n < 128) : putUk k n = [UInt8.ofNat n] := by
  cases k <;> simp [putUk, h]
theorem putUk_step {k n : Nat} (h : ¬ n < 128) : putUk (k + 1) n = UInt8.ofNat (n % 128 + 128) :: putUk k (n / 128) := by
  simp [putUk, h]

/-! ### the bits -/
open Go
theorem or128 (n : Nat) : bits .or .u8 (((n % 256 : Nat) : Int)) 128 = ((n % 128 + 128 : Nat) : Int) := by
  have h := u8_or_nat (n % 256) 128 (by omega) (by omega)
  rw [show ((128 : Nat) : Int) = 128 from rfl] at h
  rw [h]
  congr 1
  have h2 : n % 256 = 128 * (n % 256 / 128) + n % 256 % 128 := by omega
  have key : ∀ m, m < 256 → m ||| 128 = m % 128 + 128 := by decide +kernel
  rw [key _ (by omega)]
  omega

/-- P1.2: an integer as a number -/
def zig (n : Int) : Nat := if 0 ≤ n then (2 * n).toNat else (-2 * n - 1).toNat
def putI (n : Int) : List UInt8 := putU (zig n)
/-- P1.3 -/
def putT (s : List UInt8) : List UInt8 := putU s.length ++ s
/-- P1.4: four bytes -/
def le32 (n : Nat) : List UInt8 := [UInt8.ofNat n, UInt8.ofNat (n / 256), UInt8.ofNat (n / 65536), UInt8.ofNat (n / 16777216)]

theorem zig_le (n : Int) (h1 : -9223372036854775808 ≤ n) (h2 : n ≤ 9223372036854775807) : zig n ≤ 18446744073709551615 := by
  unfold zig; split <;> omega

theorem xor_all (x : Nat) (h : x < 18446744073709551616) : x ^^^ 18446744073709551615 = 18446744073709551615 - x := by
  have e : (BitVec.ofNat 64 x ^^^ BitVec.allOnes 64).toNat = (~~~ BitVec.ofNat 64 x).toNat := by rw [BitVec.xor_allOnes]
  rw [BitVec.toNat_xor, BitVec.toNat_not, BitVec.toNat_ofNat, BitVec.toNat_allOnes, Nat.mod_eq_of_lt (by omega)] at e
  simpa using e

theorem zig_bits (n : Int) (h1 : -9223372036854775808 ≤ n) (h2 : n ≤ 9223372036854775807) :
    bits .xor .u64 (IntKind.u64.wrap (IntKind.u64.wrap n * 2)) (IntKind.u64.wrap (n / 9223372036854775808)) = ((zig n : Nat) : Int) := by
  rw [IntKind.wrap_u64, IntKind.wrap_u64, IntKind.wrap_u64]
  unfold zig
  by_cases h : 0 ≤ n
  · rw [if_pos h]
    rw [show n % 18446744073709551616 * 2 % 18446744073709551616 = (((2 * n).toNat : Nat) : Int) from by omega, show n / 9223372036854775808 % 18446744073709551616 = ((0 : Nat) : Int) from by omega]
    rw [bits_xor_u64_nat _ _ (by omega) (by omega), Nat.xor_zero]
  · rw [if_neg h]
    rw [show n % 18446744073709551616 * 2 % 18446744073709551616 = (((2 * n + 18446744073709551616).toNat : Nat) : Int) from by omega, show n / 9223372036854775808 % 18446744073709551616 = ((18446744073709551615 : Nat) : Int) from by omega]
    rw [bits_xor_u64_nat _ _ (by omega) (by omega), xor_all _ (by omega)]
    omega

/-! ### numbers read -/

/-- P1.1: what a number is read as: it, how many bytes, the error -/
def uintGo : Nat → Nat → Nat → List UInt8 → Nat × Nat × Nat
  | 0, _, _, _ => (0, 0, 11)
  | _ + 1, _, _, [] => (0, 0, 10)
  | f + 1, i, acc, c :: r =>
    if 128 ≤ c.toNat then uintGo f (i + 1) (acc + c.toNat % 128 * 128 ^ i) r
    else if (0 < i ∧ c.toNat = 0) ∨ (i = 9 ∧ 1 < c.toNat) then (0, 0, 11)
    else (acc + c.toNat % 128 * 128 ^ i, i + 1, 0)
def uintF (l : List UInt8) : Nat × Nat × Nat := uintGo 10 0 0 l

theorem and127 (c : Nat) (hc : c < 256) : bits .and .u8 (c : Int) 127 = ((c % 128 : Nat) : Int) := by
  have h := u8_and_nat c 127 hc (by omega)
  rw [show ((127 : Nat) : Int) = 127 from rfl] at h
  rw [h]
  congr 1
  exact Nat.and_two_pow_sub_one_eq_mod c 7

theorem or_shift (m k x : Nat) (hm : m < 128 ^ k) : m ||| (x * 128 ^ k) = m + x * 128 ^ k := by
  have e : (128 : Nat) ^ k = 2 ^ (7 * k) := by rw [Nat.pow_mul]
  rw [e] at hm ⊢
  rw [Nat.or_comm, Nat.mul_comm, ← Nat.two_pow_add_eq_or_of_lt hm, Nat.add_comm]

theorem pow128_le (k : Nat) (hk : k ≤ 9) : 128 ^ k ≤ 9223372036854775808 := by
  have h : (128 : Nat) ^ k ≤ 128 ^ 9 := Nat.pow_le_pow_right (by omega) hk
  exact h

theorem acc_step (m k c : Nat) (hk : k ≤ 8 ∨ (k = 9 ∧ c ≤ 1)) (hm : m < 128 ^ k) (hc : c < 256) :
    bits .or .u64 (m : Int) (IntKind.u64.wrap (IntKind.u64.wrap (bits .and .u8 (c : Int) 127) * 2 ^ (7 * k))) = ((m + c % 128 * 128 ^ k : Nat) : Int) := by
  have hx : c % 128 * 128 ^ k < 18446744073709551616 := by
    rcases hk with hk | ⟨rfl, hk⟩
    · have h1 := pow128_le (k + 1) (by omega)
      have h2 : c % 128 * 128 ^ k < 128 * 128 ^ k := Nat.mul_lt_mul_of_pos_right (by omega) (Nat.pow_pos (by omega))
      rw [Nat.pow_succ] at h1
      omega
    · have : c % 128 * 128 ^ 9 ≤ 1 * 128 ^ 9 := Nat.mul_le_mul_right _ (by omega)
      omega
  have hm' : m < 18446744073709551616 := by have := pow128_le k (by omega); omega
  rw [and127 c hc, IntKind.wrap_u64, IntKind.wrap_u64]
  rw [show (((c % 128 : Nat) : Int)) % 18446744073709551616 = ((c % 128 : Nat) : Int) from by omega]
  have e : ((c % 128 : Nat) : Int) * 2 ^ (7 * k) = ((c % 128 * 128 ^ k : Nat) : Int) := by
    rw [show (128 : Nat) ^ k = 2 ^ (7 * k) from by rw [Nat.pow_mul]]
    push_cast
    rfl
  rw [e, show ((c % 128 * 128 ^ k : Nat) : Int) % 18446744073709551616 = ((c % 128 * 128 ^ k : Nat) : Int) from by omega]
  rw [bits_or_u64_nat _ _ hm' hx, or_shift _ _ _ hm]

theorem acc_lt (m k c : Nat) (hm : m < 128 ^ k) : m + c % 128 * 128 ^ k < 128 ^ (k + 1) := by
  have h2 : c % 128 * 128 ^ k ≤ 127 * 128 ^ k := Nat.mul_le_mul_right _ (by omega)
  rw [Nat.pow_succ]
  omega

theorem uintGo_facts (f i acc : Nat) (l : List UInt8) (hf : f + i = 10) (ha : acc < 128 ^ i) :
    (uintGo f i acc l).1 ≤ 18446744073709551615 ∧ (uintGo f i acc l).2.1 ≤ 10 ∧ (uintGo f i acc l).2.1 ≤ i + l.length ∧
      ((uintGo f i acc l).2.2 = 0 ∧ i < (uintGo f i acc l).2.1 ∨ ((uintGo f i acc l).2.2 = 10 ∨ (uintGo f i acc l).2.2 = 11) ∧ (uintGo f i acc l).1 = 0 ∧ (uintGo f i acc l).2.1 = 0) := by
  induction f generalizing i acc l with
  | zero => simp [uintGo]
  | succ f ih =>
    cases l with
    | nil => simp [uintGo]
    | cons c r =>
      simp only [uintGo]
      have hlt := acc_lt acc i c.toNat ha
      split
      · have := ih (i + 1) _ r (by omega) hlt
        refine ⟨this.1, this.2.1, by simp only [List.length_cons]; omega, ?_⟩
        rcases this.2.2.2 with h | h
        · exact .inl ⟨h.1, by omega⟩
        · exact .inr h
      · split
        · simp
        · rename_i h1 h2
          have hb : acc + c.toNat % 128 * 128 ^ i ≤ 18446744073709551615 := by
            by_cases hi : i ≤ 8
            · have := pow128_le (i + 1) (by omega); omega
            · obtain rfl : i = 9 := by omega
              have h3 : c.toNat % 128 * 128 ^ 9 ≤ 1 * 128 ^ 9 := Nat.mul_le_mul_right _ (by omega)
              omega
          refine ⟨hb, by simp; omega, by simp, .inl ⟨rfl, by simp⟩⟩
theorem uintF_facts (l : List UInt8) :
    (uintF l).1 ≤ 18446744073709551615 ∧ (uintF l).2.1 ≤ 10 ∧ (uintF l).2.1 ≤ l.length ∧
      ((uintF l).2.2 = 0 ∧ 0 < (uintF l).2.1 ∨ ((uintF l).2.2 = 10 ∨ (uintF l).2.2 = 11) ∧ (uintF l).1 = 0 ∧ (uintF l).2.1 = 0) := by
  have := uintGo_facts 10 0 0 l rfl (by simp)
  simpa [uintF] using this

theorem bits_u64_nat (op : BinOp) (x y : Int) : ∃ X : Nat, bits op .u64 x y = (X : Int) := by
  have h : 0 ≤ bits op .u64 x y := by
    unfold bits
    rw [IntKind.wrap_u64]
    omega
  exact ⟨_, (Int.toNat_of_nonneg h).symm⟩

/-! ### what stands on numbers -/

def unzig (u : Nat) : Int := if u % 2 = 0 then ((u / 2 : Nat) : Int) else -((u / 2 : Nat) : Int) - 1
/-- P1.3: a text read: its bytes, how many bytes, the error -/
def textF (l : List UInt8) (most : Int) : List UInt8 × Nat × Nat :=
  if (uintF l).2.2 ≠ 0 then ([], 0, (uintF l).2.2)
  else if most < 0 ∨ most < ((uintF l).1 : Int) then ([], 0, 12)
  else if l.length - (uintF l).2.1 < (uintF l).1 then ([], 0, 10)
  else ((l.drop (uintF l).2.1).take (uintF l).1, (uintF l).2.1 + (uintF l).1, 0)
/-- P1.4: four bytes read -/
def u32F : List UInt8 → Nat × Nat
  | a :: b :: c :: d :: _ => (a.toNat + b.toNat * 256 + c.toNat * 65536 + d.toNat * 16777216, 0)
  | _ => (0, 10)

theorem unzig_bits (u : Nat) (h : u ≤ 18446744073709551615) :
    bits .xor .i64 ((u : Int) / 2) (Go.RowKit.wrap64 (-Go.RowKit.wrap64 (bits .and .u64 (u : Int) 1))) = unzig u := by
  have h1 : bits .and .u64 (u : Int) 1 = ((u % 2 : Nat) : Int) := by
    have := bits_and_u64_nat u 1 (by omega) (by omega)
    rw [show ((1 : Nat) : Int) = 1 from rfl] at this
    rw [this]
    congr 1
    exact Nat.and_two_pow_sub_one_eq_mod u 1
  rw [h1]
  unfold unzig
  have hx : ∀ a b : BitVec 64, bits .xor .i64 a.toInt b.toInt = (a ^^^ b).toInt := by
    intro a b
    show IntKind.i64.wrap (((BitVec.ofInt 64 a.toInt ^^^ BitVec.ofInt 64 b.toInt).toNat : Nat) : Int) = _
    rw [BitVec.ofInt_toInt, BitVec.ofInt_toInt, IntKind.wrap_i64, BitVec.toInt_eq_toNat_bmod, Int.bmod_def]
    have := (a ^^^ b).isLt
    simp only [Nat.reducePow] at this
    split <;> omega
  have ha : (BitVec.ofNat 64 (u / 2)).toInt = (u : Int) / 2 := by
    rw [BitVec.toInt_eq_toNat_bmod, BitVec.toNat_ofNat, Nat.mod_eq_of_lt (by omega), Int.bmod_def]
    split <;> omega
  by_cases h2 : u % 2 = 0
  · rw [if_pos h2, h2]
    have hb : (0 : BitVec 64).toInt = Go.RowKit.wrap64 (-Go.RowKit.wrap64 ((0 : Nat) : Int)) := by decide +kernel
    rw [← ha, ← hb, hx, show BitVec.ofNat 64 (u / 2) ^^^ (0 : BitVec 64) = BitVec.ofNat 64 (u / 2) from BitVec.xor_zero, ha]
    omega
  · rw [if_neg h2, show u % 2 = 1 from by omega]
    have hb : (BitVec.allOnes 64).toInt = Go.RowKit.wrap64 (-Go.RowKit.wrap64 ((1 : Nat) : Int)) := by decide +kernel
    rw [← ha, ← hb, hx, BitVec.xor_allOnes, BitVec.toInt_not, BitVec.toNat_ofNat, Nat.mod_eq_of_lt (by omega), Int.bmod_def]
    split <;> omega

theorem or_mul (m i x : Nat) (hm : m < 2 ^ i) : m ||| (x * 2 ^ i) = m + x * 2 ^ i := by
  rw [Nat.or_comm, Nat.mul_comm, ← Nat.two_pow_add_eq_or_of_lt hm, Nat.add_comm]

theorem u32_bits (a b c d : Nat) (ha : a < 256) (hb : b < 256) (hc : c < 256) (hd : d < 256) :
    bits .or .u32 (bits .or .u32 (bits .or .u32 (a : Int) ((b : Int) * 256)) ((c : Int) * 65536)) ((d : Int) * 16777216) = ((a + b * 256 + c * 65536 + d * 16777216 : Nat) : Int) := by
  rw [show (b : Int) * 256 = ((b * 2 ^ 8 : Nat) : Int) from by omega, show (c : Int) * 65536 = ((c * 2 ^ 16 : Nat) : Int) from by omega, show (d : Int) * 16777216 = ((d * 2 ^ 24 : Nat) : Int) from by omega]
  rw [u32_or_nat _ _ (by omega) (by omega), or_mul a 8 b (by omega), u32_or_nat _ _ (by omega) (by omega), or_mul _ 16 c (by omega), u32_or_nat _ _ (by omega) (by omega), or_mul _ 24 d (by omega)]

/-! ### the checksum -/

def poly : Nat := 2197175160
/-- one bit -/
def st (r : Nat) : Nat := (r / 2) ^^^ (if r % 2 = 1 then poly else 0)
def stN : Nat → Nat → Nat
  | 0, r => r
  | k + 1, r => st (stN k r)
/-- one byte -/
def sumStep (r : Nat) (c : UInt8) : Nat := stN 8 (r ^^^ c.toNat)
def sumGo (r : Nat) (l : List UInt8) : Nat := l.foldl sumStep r
/-- P1.4 -/
def sumF (l : List UInt8) : Nat := sumGo 4294967295 l ^^^ 4294967295

theorem st_lt (r : Nat) (h : r < 4294967296) : st r < 4294967296 := by
  unfold st
  exact Nat.xor_lt_two_pow (n := 32) (by omega) (by split <;> simp [poly])
theorem stN_lt (k r : Nat) (h : r < 4294967296) : stN k r < 4294967296 := by
  induction k with
  | zero => exact h
  | succ k ih => exact st_lt _ ih

theorem u32_and1 (r : Nat) (h : r < 4294967296) : bits .and .u32 (r : Int) 1 = ((r % 2 : Nat) : Int) := by
  have := u32_and_nat r 1 h (by omega)
  rw [show ((1 : Nat) : Int) = 1 from rfl] at this
  rw [this]
  congr 1
  exact Nat.and_two_pow_sub_one_eq_mod r 1
theorem u32_and15 (r : Nat) (h : r < 4294967296) : bits .and .u32 (r : Int) 15 = ((r % 16 : Nat) : Int) := by
  have := u32_and_nat r 15 h (by omega)
  rw [show ((15 : Nat) : Int) = 15 from rfl] at this
  rw [this]
  congr 1
  exact Nat.and_two_pow_sub_one_eq_mod r 4

theorem st_bits (r : Nat) (h : r < 4294967296) : bits .xor .u32 ((r : Int) / 2) (2197175160 * ((r % 2 : Nat) : Int)) = ((st r : Nat) : Int) := by
  rw [show (r : Int) / 2 = ((r / 2 : Nat) : Int) from by omega]
  have h2 : r % 2 = 0 ∨ r % 2 = 1 := by omega
  unfold st
  rcases h2 with h2 | h2 <;> rw [h2]
  · rw [show (2197175160 : Int) * ((0 : Nat) : Int) = ((0 : Nat) : Int) from by omega, u32_xor_nat _ _ (by omega) (by omega)]; rfl
  · rw [show (2197175160 : Int) * ((1 : Nat) : Int) = ((2197175160 : Nat) : Int) from by omega, u32_xor_nat _ _ (by omega) (by omega)]; rfl

theorem xor_div2 (a b : Nat) : (a ^^^ b) / 2 = a / 2 ^^^ b / 2 := by
  have h : ∀ x : Nat, x / 2 = x >>> 1 := fun x => by simp [Nat.shiftRight_eq_div_pow]
  rw [h, h, h, Nat.shiftRight_xor_distrib]
theorem xor_mod2 (a b : Nat) : (a ^^^ b) % 2 = (a + b) % 2 := by
  have h1 : (a ^^^ b).testBit 0 = (a.testBit 0 ^^ b.testBit 0) := Nat.testBit_xor ..
  rcases Nat.mod_two_eq_zero_or_one a with ha | ha <;> rcases Nat.mod_two_eq_zero_or_one b with hb | hb <;> rcases Nat.mod_two_eq_zero_or_one (a ^^^ b) with hc | hc <;> simp [Nat.testBit_zero, ha, hb, hc] at h1 <;> omega

theorem st_xor (a b : Nat) : st (a ^^^ b) = st a ^^^ st b := by
  unfold st
  rw [xor_div2, xor_mod2]
  have ha : a % 2 = 0 ∨ a % 2 = 1 := by omega
  have hb : b % 2 = 0 ∨ b % 2 = 1 := by omega
  have e : (a + b) % 2 = (a % 2 + b % 2) % 2 := by omega
  rw [e]
  rcases ha with ha | ha <;> rcases hb with hb | hb <;> rw [ha, hb] <;> simp
  · rw [Nat.xor_assoc]
  · rw [Nat.xor_assoc, Nat.xor_comm (b / 2) poly, ← Nat.xor_assoc]
  · rw [Nat.xor_assoc, ← Nat.xor_assoc poly, Nat.xor_comm poly (b / 2), Nat.xor_assoc (b / 2), Nat.xor_self, Nat.xor_zero]

theorem xor16 (q s : Nat) (h : s < 16) : 16 * q ^^^ s = 16 * q + s := by
  apply Nat.eq_of_testBit_eq
  intro j
  have h1 := Nat.testBit_two_pow_mul_add q (i := 4) (b := s) h j
  have h2 := Nat.testBit_two_pow_mul_add q (i := 4) (b := 0) (by omega) j
  simp only [Nat.reducePow, Nat.add_zero, Nat.zero_testBit] at h1 h2
  rw [Nat.testBit_xor, h1, h2]
  by_cases hj : j < 4
  · simp [hj]
  · have hs : s.testBit j = false := Nat.testBit_lt_two_pow (Nat.lt_of_lt_of_le h (Nat.pow_le_pow_right (n := 2) (by omega) (show 4 ≤ j from by omega)))
    simp [hj, hs]

theorem st_even (x : Nat) : st (2 * x) = x := by
  unfold st
  rw [show 2 * x / 2 = x from by omega, if_neg (by omega), Nat.xor_zero]
theorem stN_xor (k a b : Nat) : stN k (a ^^^ b) = stN k a ^^^ stN k b := by
  induction k with
  | zero => rfl
  | succ k ih => simp only [stN]; rw [ih, st_xor]
theorem stN_add (j k r : Nat) : stN (j + k) r = stN j (stN k r) := by
  induction j with
  | zero => simp [stN]
  | succ j ih => rw [show j + 1 + k = (j + k) + 1 from by omega]; simp only [stN]; rw [ih]
theorem st4_16 (q : Nat) : stN 4 (16 * q) = q := by
  simp only [stN]
  rw [show 16 * q = 2 * (8 * q) from by omega, st_even, show 8 * q = 2 * (4 * q) from by omega, st_even, show 4 * q = 2 * (2 * q) from by omega, st_even, st_even]
/-- a half byte by the table -/
theorem st4_nibble (r : Nat) : stN 4 r = r / 16 ^^^ stN 4 (r % 16) := by
  have h : r = 16 * (r / 16) ^^^ (r % 16) := by rw [xor16 _ _ (by omega)]; omega
  have e := stN_xor 4 (16 * (r / 16)) (r % 16)
  rw [← h, st4_16] at e
  exact e
theorem sumStep_lt (r : Nat) (c : UInt8) (h : r < 4294967296) : sumStep r c < 4294967296 := by
  have := c.toNat_lt
  exact stN_lt _ _ (Nat.xor_lt_two_pow (n := 32) (by omega) (by omega))
theorem sumGo_lt (l : List UInt8) : ∀ r, r < 4294967296 → sumGo r l < 4294967296 := by
  induction l with
  | nil => intro r h; exact h
  | cons c l ih => intro r h; exact ih _ (sumStep_lt r c h)
theorem sumGo_snoc (r : Nat) (l : List UInt8) (c : UInt8) : sumGo r (l ++ [c]) = sumStep (sumGo r l) c := by
  simp [sumGo, List.foldl_append]
theorem sumF_lt (l : List UInt8) : sumF l < 4294967296 := by
  have := sumGo_lt l 4294967295 (by omega)
  exact Nat.xor_lt_two_pow (n := 32) (by omega) (by omega)

/-- the table's cells, the first k of them filled -/
def tabCells (k : Nat) : Array Value := ((List.range 16).map fun j => Value.int .u32 (if j < k then ((stN 4 j : Nat) : Int) else 0)).toArray
theorem tabCells_size (k : Nat) : (tabCells k).size = 16 := by simp [tabCells]
theorem tabCells_get (k j : Nat) (h : j < 16) : (tabCells k)[j]? = some (.int .u32 (if j < k then ((stN 4 j : Nat) : Int) else 0)) := by
  simp [tabCells, h]
theorem tabCells_set (k : Nat) (_h : k < 16) : (tabCells k).setIfInBounds k (.int .u32 ((stN 4 k : Nat) : Int)) = tabCells (k + 1) := by
  apply Array.ext_getElem?
  intro j
  by_cases hj : j < 16
  · rw [Array.getElem?_setIfInBounds, tabCells_get (k + 1) j hj, tabCells_size]
    by_cases hk : k = j
    · subst hk; simp [hj]
    · rw [if_neg hk, tabCells_get k j hj]
      congr 2
      by_cases h2 : j < k
      · rw [if_pos h2, if_pos (by omega)]
      · rw [if_neg h2, if_neg (by omega)]
  · have h1 := tabCells_size k
    have h2 := tabCells_size (k + 1)
    rw [Array.getElem?_eq_none (by simp; omega), Array.getElem?_eq_none (by omega)]
theorem tabCells_zero : tabCells 0 = #[.int .u32 0, .int .u32 0, .int .u32 0, .int .u32 0, .int .u32 0, .int .u32 0, .int .u32 0, .int .u32 0, .int .u32 0, .int .u32 0, .int .u32 0, .int .u32 0, .int .u32 0, .int .u32 0, .int .u32 0, .int .u32 0] := by
  simp [tabCells, List.range_succ]

theorem not_u32 (r : Nat) (h : r < 4294967296) : r ^^^ 4294967295 = 4294967295 - r := by
  have e : (BitVec.ofNat 32 r ^^^ BitVec.allOnes 32).toNat = (~~~ BitVec.ofNat 32 r).toNat := by rw [BitVec.xor_allOnes]
  rw [BitVec.toNat_xor, BitVec.toNat_not, BitVec.toNat_ofNat, BitVec.toNat_allOnes, Nat.mod_eq_of_lt (by omega)] at e
  simpa using e

/-- what one round of the table's loop reckons -/
theorem sum_round (x : Nat) (c : UInt8) (hx : x < 4294967296) : ∃ q s t q1 s1 t1 q2 : Nat,
    bits .xor .u32 (x : Int) ((c.toNat : Nat) : Int) = (q : Int) ∧ q < 4294967296 ∧ bits .and .u32 (q : Int) 15 = (s : Int) ∧ s < 16 ∧ t = stN 4 s ∧ t < 4294967296 ∧
    bits .xor .u32 ((q : Int) / 16) (t : Int) = (q1 : Int) ∧ q1 < 4294967296 ∧ bits .and .u32 (q1 : Int) 15 = (s1 : Int) ∧ s1 < 16 ∧ t1 = stN 4 s1 ∧ t1 < 4294967296 ∧
    bits .xor .u32 ((q1 : Int) / 16) (t1 : Int) = (q2 : Int) ∧ q2 < 4294967296 ∧ q2 = sumStep x c := by
  have hc := c.toNat_lt
  have hq : x ^^^ c.toNat < 4294967296 := Nat.xor_lt_two_pow (n := 32) (by omega) (by omega)
  have e1 := st4_nibble (x ^^^ c.toNat)
  have hq1 := stN_lt 4 _ hq
  have e2 := st4_nibble (stN 4 (x ^^^ c.toNat))
  have hq2 := stN_lt 4 _ hq1
  refine ⟨x ^^^ c.toNat, (x ^^^ c.toNat) % 16, stN 4 ((x ^^^ c.toNat) % 16), stN 4 (x ^^^ c.toNat), stN 4 (x ^^^ c.toNat) % 16, stN 4 (stN 4 (x ^^^ c.toNat) % 16), stN 4 (stN 4 (x ^^^ c.toNat)),
    u32_xor_nat _ _ hx (by omega), hq, u32_and15 _ hq, by omega, rfl, stN_lt _ _ (by omega), ?_, hq1, u32_and15 _ hq1, by omega, rfl, stN_lt _ _ (by omega), ?_, hq2, ?_⟩
  · rw [show ((x ^^^ c.toNat : Nat) : Int) / 16 = (((x ^^^ c.toNat) / 16 : Nat) : Int) from by omega, u32_xor_nat _ _ (by omega) (stN_lt _ _ (by omega)), ← e1]
  · rw [show ((stN 4 (x ^^^ c.toNat) : Nat) : Int) / 16 = ((stN 4 (x ^^^ c.toNat) / 16 : Nat) : Int) from by omega, u32_xor_nat _ _ (by omega) (stN_lt _ _ (by omega)), ← e2]
  · rw [← stN_add]; rfl

theorem not_bits (x : Nat) (h : x < 4294967296) : bits .xor .u32 IntKind.u32.max (x : Int) = ((x ^^^ 4294967295 : Nat) : Int) := by
  rw [show IntKind.u32.max = ((4294967295 : Nat) : Int) from by decide, u32_xor_nat _ _ (by omega) h, Nat.xor_comm]

/-! ### frames -/

/-- the bytes behind a frame's sum -/
def restF (kind : UInt8) (data : List UInt8) : List UInt8 := kind :: (putU data.length ++ data)
/-- P1.5 -/
def putF (kind : UInt8) (data : List UInt8) : List UInt8 := le32 (sumF (restF kind data)) ++ restF kind data

structure Fr where
  kind : UInt8
  data : List UInt8
  n : Nat
  e : Nat
/-- P1.5: what bytes are read as -/
def frameF (l : List UInt8) : Fr :=
  if l.length < 5 then ⟨0, [], 0, 10⟩
  else if (uintF (l.drop 5)).2.2 ≠ 0 then ⟨0, [], 0, (uintF (l.drop 5)).2.2⟩
  else if 2000 < (uintF (l.drop 5)).1 then ⟨0, [], 0, 12⟩
  else if l.length - 5 - (uintF (l.drop 5)).2.1 < (uintF (l.drop 5)).1 then ⟨0, [], 0, 10⟩
  else if (u32F l).1 ≠ sumF ((l.drop 4).take (1 + (uintF (l.drop 5)).2.1 + (uintF (l.drop 5)).1)) then ⟨0, [], 0, 11⟩
  else ⟨l.getD 4 0, (l.drop (5 + (uintF (l.drop 5)).2.1)).take (uintF (l.drop 5)).1, 5 + (uintF (l.drop 5)).2.1 + (uintF (l.drop 5)).1, 0⟩

theorem le32_length (n : Nat) : (le32 n).length = 4 := rfl
theorem restF_length (kind : UInt8) (data : List UInt8) : (restF kind data).length = 1 + (putU data.length).length + data.length := by
  simp [restF]; omega
theorem putF_length (kind : UInt8) (data : List UInt8) : (putF kind data).length = 5 + (putU data.length).length + data.length := by
  simp [putF, le32_length, restF_length]; omega

/-- which of n things a raw number speaks of -/
def pickF (c : Int) (n : Nat) : Nat := ((if c < 0 then -(c + 1) else c) % (n : Int)).toNat
theorem pickF_lt (c : Int) (n : Nat) (h : 0 < n) : pickF c n < n := by
  unfold pickF
  have := Int.emod_lt_of_pos (if c < 0 then -(c + 1) else c) (show (0 : Int) < n by omega)
  omega
theorem pickF_cast (c : Int) (n : Nat) (h : 0 < n) : ((pickF c n : Nat) : Int) = (if c < 0 then -(c + 1) else c) % (n : Int) := by
  unfold pickF
  have := Int.emod_nonneg (if c < 0 then -(c + 1) else c) (show (n : Int) ≠ 0 by omega)
  omega

/-! ### one bit turned -/

theorem xor_rc {a b c : Nat} (h : a ^^^ c = b ^^^ c) : a = b := by
  have e := congrArg (fun x => x ^^^ c) h
  simpa [Nat.xor_assoc] using e
theorem xor_lc {a b c : Nat} (h : c ^^^ a = c ^^^ b) : a = b := xor_rc (c := c) (by rw [Nat.xor_comm a, Nat.xor_comm b]; exact h)

theorem st_inj (a b : Nat) (ha : a < 4294967296) (hb : b < 4294967296) (h : st a = st b) : a = b := by
  have key : ∀ x, x < 4294967296 → (st x).testBit 31 = decide (x % 2 = 1) := by
    intro x hx
    unfold st
    rw [Nat.testBit_xor]
    have h1 : (x / 2).testBit 31 = false := Nat.testBit_lt_two_pow (by omega)
    rw [h1]
    by_cases h2 : x % 2 = 1
    · rw [if_pos h2]; simp [h2]; decide
    · rw [if_neg h2]; simp [h2]
  have h1 := key a ha
  have h2 := key b hb
  rw [h] at h1
  have hm : decide (a % 2 = 1) = decide (b % 2 = 1) := h1.symm.trans h2
  have hmm : a % 2 = b % 2 := by
    by_cases x : a % 2 = 1 <;> by_cases y : b % 2 = 1 <;> simp [x, y] at hm <;> omega
  have hd : a / 2 = b / 2 := by
    unfold st at h
    rw [hmm] at h
    exact xor_rc h
  omega
theorem stN_inj (k a b : Nat) (ha : a < 4294967296) (hb : b < 4294967296) (h : stN k a = stN k b) : a = b := by
  induction k with
  | zero => exact h
  | succ k ih => exact ih (st_inj _ _ (stN_lt _ _ ha) (stN_lt _ _ hb) h)
theorem sumStep_inj (a b : Nat) (c : UInt8) (ha : a < 4294967296) (hb : b < 4294967296) (h : sumStep a c = sumStep b c) : a = b := by
  have hc := c.toNat_lt
  have := stN_inj 8 _ _ (Nat.xor_lt_two_pow (n := 32) (by omega) (by omega)) (Nat.xor_lt_two_pow (n := 32) (by omega) (by omega)) h
  exact xor_rc this
theorem sumGo_inj (l : List UInt8) : ∀ a b, a < 4294967296 → b < 4294967296 → sumGo a l = sumGo b l → a = b := by
  induction l with
  | nil => intro a b _ _ h; exact h
  | cons c l ih => intro a b ha hb h; exact sumStep_inj a b c ha hb (ih _ _ (sumStep_lt a c ha) (sumStep_lt b c hb) h)
theorem sumStep_ne (a : Nat) (c d : UInt8) (ha : a < 4294967296) (h : c ≠ d) : sumStep a c ≠ sumStep a d := by
  intro e
  have hc := c.toNat_lt
  have hd := d.toNat_lt
  have := stN_inj 8 _ _ (Nat.xor_lt_two_pow (n := 32) (by omega) (by omega)) (Nat.xor_lt_two_pow (n := 32) (by omega) (by omega)) e
  exact h (UInt8.toNat_inj.1 (xor_lc this))
/-- a list in which one byte is another has another sum -/
theorem sumF_set (l : List UInt8) (j : Nat) (c : UInt8) (hj : j < l.length) (h : c ≠ l[j]) : sumF (l.set j c) ≠ sumF l := by
  intro e
  have e1 : sumGo 4294967295 (l.set j c) = sumGo 4294967295 l := xor_rc e
  have hs : l = l.take j ++ l[j] :: l.drop (j + 1) := by rw [← List.drop_eq_getElem_cons hj, List.take_append_drop]
  have ht : l.set j c = l.take j ++ c :: l.drop (j + 1) := by rw [List.set_eq_take_append_cons_drop, if_pos hj]
  rw [ht] at e1
  conv at e1 => rhs; rw [hs]
  simp only [sumGo, List.foldl_append, List.foldl_cons] at e1
  have hlt := sumGo_lt (l.take j) 4294967295 (by omega)
  exact sumStep_ne _ _ _ hlt h (sumGo_inj (l.drop (j + 1)) _ _ (sumStep_lt _ _ hlt) (sumStep_lt _ _ hlt) e1)

end Go.Proofs.Ythobhkmphjnlaaa
