/- Plain laws on words of 32 and 64 bits (no program in sight): the functions as the print tells them, and what they come to in natural numbers. -/
import Derived.Test.YthcanciolelmgaaWMore
namespace Go.Proofs.Ythcanciolelmgaa.Plain
open Go.RowKit Go.Proofs.YthcanciolelmgaaW.PrintWords Go.Proofs.YthcanciolelmgaaW.PrintLast

theorem u32_of {x : Int} (h : (Lit.int .u32 x).wf = true) : 0 ≤ x ∧ x < 4294967296 := by
  have : IntKind.u32.min ≤ x ∧ x ≤ IntKind.u32.max := by simpa [Lit.wf] using h
  have e1 : IntKind.u32.min = 0 := by decide
  have e2 : IntKind.u32.max = 4294967295 := by decide
  omega

theorem u64_of {x : Int} (h : (Lit.int .u64 x).wf = true) : 0 ≤ x ∧ x < 18446744073709551616 := by
  have : IntKind.u64.min ≤ x ∧ x ≤ IntKind.u64.max := by simpa [Lit.wf] using h
  have e1 : IntKind.u64.min = 0 := by decide
  have e2 : IntKind.u64.max = 18446744073709551615 := by decide
  omega

theorem i64_of {x : Int} (h : (Lit.int .i64 x).wf = true) : -9223372036854775808 ≤ x ∧ x < 9223372036854775808 := by
  have : IntKind.i64.min ≤ x ∧ x ≤ 9223372036854775807 := by simpa [Lit.wf] using h
  have e1 : IntKind.i64.min = -9223372036854775808 := by decide
  omega

theorem bits_nat2 (k : IntKind) (j : Nat) (hj : j = k.bits) (hk : ∀ n : Int, 0 ≤ n → n < 2 ^ j → k.wrap n = n) (a b : Nat) (ha : a < 2 ^ j) (hb : b < 2 ^ j) :
    Go.bits .and k a b = ((a &&& b : Nat) : Int) ∧ Go.bits .or k a b = ((a ||| b : Nat) : Int) ∧ Go.bits .xor k a b = ((a ^^^ b : Nat) : Int) ∧ Go.bits .andNot k a b = ((a &&& (2 ^ j - 1 - b) : Nat) : Int) := by
  subst hj
  have ha' : a % 2 ^ k.bits = a := Nat.mod_eq_of_lt ha
  have hb' : b % 2 ^ k.bits = b := Nat.mod_eq_of_lt hb
  have cast : ∀ n : Nat, n < 2 ^ k.bits → ((n : Nat) : Int) < 2 ^ k.bits := fun n h => by exact_mod_cast h
  refine ⟨?_, ?_, ?_, ?_⟩
  · simp only [bits, BitVec.ofInt_natCast, BitVec.toNat_and, BitVec.toNat_ofNat, ha', hb']
    exact hk _ (Int.natCast_nonneg _) (cast _ (Nat.and_lt_two_pow _ hb))
  · simp only [bits, BitVec.ofInt_natCast, BitVec.toNat_or, BitVec.toNat_ofNat, ha', hb']
    exact hk _ (Int.natCast_nonneg _) (cast _ (Nat.or_lt_two_pow ha hb))
  · simp only [bits, BitVec.ofInt_natCast, BitVec.toNat_xor, BitVec.toNat_ofNat, ha', hb']
    exact hk _ (Int.natCast_nonneg _) (cast _ (Nat.xor_lt_two_pow ha hb))
  · simp only [bits, BitVec.ofInt_natCast, BitVec.toNat_and, BitVec.toNat_not, BitVec.toNat_ofNat, ha', hb']
    have : 2 ^ k.bits - 1 - b < 2 ^ k.bits := by have := Nat.two_pow_pos k.bits; omega
    exact hk _ (Int.natCast_nonneg _) (cast _ (Nat.and_lt_two_pow _ this))

theorem bits32 (a b : Nat) (ha : a < 4294967296) (hb : b < 4294967296) :
    Go.bits .and .u32 a b = ((a &&& b : Nat) : Int) ∧ Go.bits .or .u32 a b = ((a ||| b : Nat) : Int) ∧ Go.bits .xor .u32 a b = ((a ^^^ b : Nat) : Int) :=
  have h := bits_nat2 .u32 32 rfl (fun n h0 h1 => by rw [IntKind.wrap_u32]; omega) a b ha hb
  ⟨h.1, h.2.1, h.2.2.1⟩

theorem bits64 (a b : Nat) (ha : a < 18446744073709551616) (hb : b < 18446744073709551616) :
    Go.bits .and .u64 a b = ((a &&& b : Nat) : Int) ∧ Go.bits .or .u64 a b = ((a ||| b : Nat) : Int) ∧ Go.bits .andNot .u64 a b = ((a &&& (2 ^ 64 - 1 - b) : Nat) : Int) :=
  have h := bits_nat2 .u64 64 rfl (fun n h0 h1 => by rw [IntKind.wrap_u64]; omega) a b ha hb
  ⟨h.1, h.2.1, h.2.2.2⟩

/-- In both, and in one of both, bit by bit, add up to the sum. -/
theorem and_add_or (a b : Nat) : (a &&& b) + (a ||| b) = a + b := by
  induction a using Nat.strongRecOn generalizing b with
  | ind a ih =>
    by_cases h : a = 0
    · subst h; simp
    · have := ih (a / 2) (by omega) (b / 2)
      have e1 : (a &&& b) / 2 = a / 2 &&& b / 2 := Nat.and_div_two
      have e2 : (a ||| b) / 2 = a / 2 ||| b / 2 := Nat.or_div_two
      have m1 : (a &&& b) % 2 = (a % 2) &&& (b % 2) := by
        have := Nat.and_mod_two_pow (a := a) (b := b) (n := 1); simpa using this
      have m2 : (a ||| b) % 2 = (a % 2) ||| (b % 2) := by
        have := Nat.or_mod_two_pow (a := a) (b := b) (n := 1); simpa using this
      rcases Nat.mod_two_eq_zero_or_one a with ha | ha <;> rcases Nat.mod_two_eq_zero_or_one b with hb | hb <;> rw [ha, hb] at m1 m2 <;> simp only [Nat.and_self, Nat.zero_and, Nat.and_zero, Nat.or_self, Nat.zero_or, Nat.or_zero] at m1 m2 <;> rw [← e1, ← e2] at this <;> omega

theorem xor_add_and (a b : Nat) : (a ^^^ b) + (a &&& b) = a ||| b := by
  induction a using Nat.strongRecOn generalizing b with
  | ind a ih =>
    by_cases h : a = 0
    · subst h; simp
    · have := ih (a / 2) (by omega) (b / 2)
      have e1 : (a &&& b) / 2 = a / 2 &&& b / 2 := Nat.and_div_two
      have e2 : (a ||| b) / 2 = a / 2 ||| b / 2 := Nat.or_div_two
      have e3 : (a ^^^ b) / 2 = a / 2 ^^^ b / 2 := Nat.xor_div_two
      have m1 : (a &&& b) % 2 = (a % 2) &&& (b % 2) := by
        have := Nat.and_mod_two_pow (a := a) (b := b) (n := 1); simpa using this
      have m2 : (a ||| b) % 2 = (a % 2) ||| (b % 2) := by
        have := Nat.or_mod_two_pow (a := a) (b := b) (n := 1); simpa using this
      have m3 : (a ^^^ b) % 2 = (a % 2) ^^^ (b % 2) := by
        have := Nat.xor_mod_two_pow (a := a) (b := b) (n := 1); simpa using this
      rcases Nat.mod_two_eq_zero_or_one a with ha | ha <;> rcases Nat.mod_two_eq_zero_or_one b with hb | hb <;> rw [ha, hb] at m1 m2 m3 <;> simp only [Nat.and_self, Nat.zero_and, Nat.and_zero, Nat.or_self, Nat.zero_or, Nat.or_zero, Nat.xor_self, Nat.zero_xor, Nat.xor_zero] at m1 m2 m3 <;> rw [← e1, ← e2, ← e3] at this <;> omega

/-- The other bits. -/
theorem xor_all (a : Nat) (n : Nat) (h : a < 2 ^ n) : a ^^^ (2 ^ n - 1) = 2 ^ n - 1 - a := by
  have := xor_add_and a (2 ^ n - 1)
  rw [Nat.and_two_pow_sub_one_eq_mod, Nat.mod_eq_of_lt h] at this
  have o := and_add_or a (2 ^ n - 1)
  rw [Nat.and_two_pow_sub_one_eq_mod, Nat.mod_eq_of_lt h] at o
  omega

/-- What is in neither. -/
theorem neither (a b : Nat) (n : Nat) (ha : a < 2 ^ n) (hb : b < 2 ^ n) : (a ^^^ (2 ^ n - 1)) &&& (b ^^^ (2 ^ n - 1)) = (a ||| b) ^^^ (2 ^ n - 1) := by
  apply Nat.eq_of_testBit_eq
  intro i
  simp only [Nat.testBit_and, Nat.testBit_xor, Nat.testBit_or, Nat.testBit_two_pow_sub_one]
  by_cases h : i < n
  · simp [h]
  · have h1 : a.testBit i = false := Nat.testBit_lt_two_pow (Nat.lt_of_lt_of_le ha (Nat.pow_le_pow_right (by decide) (by omega)))
    have h2 : b.testBit i = false := Nat.testBit_lt_two_pow (Nat.lt_of_lt_of_le hb (Nat.pow_le_pow_right (by decide) (by omega)))
    simp [h, h1, h2]

theorem and31 (b : Nat) (hb : b < 4294967296) : Go.bits .and .u32 b 31 = ((b % 32 : Nat) : Int) := by
  have := (bits32 b 31 hb (by decide)).1
  rw [show (31 : Nat) = 2 ^ 5 - 1 from rfl, Nat.and_two_pow_sub_one_eq_mod] at this
  exact this

theorem shl32 (a m : Nat) (hm : m < 32) : shl .u32 a m = ((a * 2 ^ m % 4294967296 : Nat) : Int) := by
  unfold shl
  rw [IntKind.wrap_u32, Int.toNat_natCast, show min m IntKind.u32.bits = m from Nat.min_eq_left (by have : IntKind.u32.bits = 32 := rfl; omega)]
  rw [Int.natCast_emod, Int.natCast_mul, Int.natCast_pow]; rfl

theorem shr32 (a m : Nat) (hm : m < 32) : shr .u32 a m = ((a / 2 ^ m : Nat) : Int) := by
  unfold shr
  rw [Int.toNat_natCast, show min m IntKind.u32.bits = m from Nat.min_eq_left (by have : IntKind.u32.bits = 32 := rfl; omega)]
  rw [Int.natCast_ediv, Int.natCast_pow]; rfl

theorem shl64 (a m : Nat) (hm : m < 64) : shl .u64 a m = ((a * 2 ^ m % 18446744073709551616 : Nat) : Int) := by
  unfold shl
  rw [IntKind.wrap_u64, Int.toNat_natCast, show min m IntKind.u64.bits = m from Nat.min_eq_left (by have : IntKind.u64.bits = 64 := rfl; omega)]
  rw [Int.natCast_emod, Int.natCast_mul, Int.natCast_pow]; rfl

theorem shr64 (a m : Nat) (hm : m < 64) : shr .u64 a m = ((a / 2 ^ m : Nat) : Int) := by
  unfold shr
  rw [Int.toNat_natCast, show min m IntKind.u64.bits = m from Nat.min_eq_left (by have : IntKind.u64.bits = 64 := rfl; omega)]
  rw [Int.natCast_ediv, Int.natCast_pow]; rfl

theorem up_bit (i j : Nat) : ((2 ^ 64 - 1) * 2 ^ i % 2 ^ 64).testBit j = (decide (j < 64) && decide (i ≤ j)) := by
  rw [Nat.testBit_mod_two_pow, ← Nat.shiftLeft_eq, Nat.testBit_shiftLeft, Nat.testBit_two_pow_sub_one]
  by_cases h : j < 64 <;> by_cases h2 : i ≤ j <;> simp [h, h2]; omega

end Go.Proofs.Ythcanciolelmgaa.Plain
