/- WordMoves: moved up and down again a word keeps its lower bits; moved by 32 more it is the same; moved up it is a product; for every two words of 32 bits. -/
import Derived.Test.YthcanciolelmgaaMovesWalk
import Derived.Test.YthcanciolelmgaaPlain
namespace Go.Proofs.Ythcanciolelmgaa.Pure
open Go.RowKit Go.Proofs.Ythcanciolelmgaa.PWordMoves Go.Proofs.YthcanciolelmgaaW.PrintWords Go.Proofs.YthcanciolelmgaaW.PrintLast Go.Proofs.YthcanciolelmgaaW.PrintMore
open Go.Proofs.Ythcanciolelmgaa.Plain

theorem awake_true : tamislaw01_awake.f = some true := by decide +kernel

theorem lsh (a b : Nat) (hb : b < 4294967296) : word_Alu.f 96 a b = some (((a * 2 ^ (b % 32) % 4294967296 : Nat) : Int), true) := by
  have h : Go.bits .and .u32 (b : Int) 31 = ((b % 32 : Nat) : Int) := and31 b hb
  simp only [word_Alu.f, Int.reduceEq, reduceIte]
  rw [h, if_pos (Int.natCast_nonneg _), shl32 a (b % 32) (Nat.mod_lt _ (by decide))]
theorem rsh (a b : Nat) (hb : b < 4294967296) : word_Alu.f 112 a b = some (((a / 2 ^ (b % 32) : Nat) : Int), true) := by
  have h : Go.bits .and .u32 (b : Int) 31 = ((b % 32 : Nat) : Int) := and31 b hb
  simp only [word_Alu.f, Int.reduceEq, reduceIte]
  rw [h, if_pos (Int.natCast_nonneg _), shr32 a (b % 32) (Nat.mod_lt _ (by decide))]
theorem mul (a b : Nat) : word_Alu.f 32 a b = some (((a * b % 4294967296 : Nat) : Int), true) := by
  simp only [word_Alu.f, Int.reduceEq, reduceIte]
  rw [Int.natCast_emod, Int.natCast_mul]; rfl
theorem div (a b : Nat) (ha : a < 4294967296) (hb : b ≠ 0) : word_Alu.f 48 a b = some (((a / b : Nat) : Int), true) := by
  simp only [word_Alu.f, Int.reduceEq, reduceIte]
  rw [if_neg (by omega)]
  have hq : a / b ≤ a := Nat.div_le_self a b
  have : Int.tdiv (a : Int) b % 4294967296 = ((a / b : Nat) : Int) := by
    rw [show Int.tdiv (a : Int) b = ((a / b : Nat) : Int) from (Int.ofNat_tdiv a b).symm ▸ rfl]
    exact Int.emod_eq_of_lt (Int.natCast_nonneg _) (by have : ((a / b : Nat) : Int) ≤ (a : Int) := Int.ofNat_le.2 hq; omega)
  rw [this]
theorem and_ (a b : Nat) (ha : a < 4294967296) (hb : b < 4294967296) : word_Alu.f 80 a b = some (((a &&& b : Nat) : Int), true) := by
  simp only [word_Alu.f, Int.reduceEq, reduceIte]
  rw [(bits32 a b ha hb).1]

theorem up_all : word_up.f 0 = some 18446744073709551615 := by decide +kernel
theorem up_of (i : Nat) (h0 : 0 < i) (h1 : i < 64) : word_up.f (i : Int) = some (((2 ^ 64 - 1) * 2 ^ i % 18446744073709551616 : Nat) : Int) := by
  unfold word_up.f
  rw [if_neg (by omega), if_neg (by omega), if_pos (by omega)]
  exact congrArg some (shl64 18446744073709551615 i h1)
theorem span_low (n : Nat) (h0 : 0 < n) (h1 : n ≤ 32) : word_Span.f 0 ((n : Int) - 1) = some ((2 ^ n - 1 : Nat) : Int) := by
  unfold word_Span.f
  have e : wrap64 ((n : Int) - 1 + 1) = (n : Int) := by unfold wrap64; omega
  rw [if_neg (by omega), if_neg (by omega), up_all, e, up_of n h0 (by omega), Option.bind_some, Option.bind_some]
  have b := (bits64 18446744073709551615 ((2 ^ 64 - 1) * 2 ^ n % 18446744073709551616) (by decide) (Nat.mod_lt _ (by decide))).2.2
  refine congrArg some (b.trans (congrArg (fun x : Nat => (x : Int)) ?_))
  apply Nat.eq_of_testBit_eq
  intro i
  rw [Nat.testBit_and, Nat.testBit_two_pow_sub_one, show (2 : Nat) ^ 64 - 1 - (2 ^ 64 - 1) * 2 ^ n % 18446744073709551616 = 2 ^ 64 - 1 - (2 ^ 64 - 1) * 2 ^ n % 2 ^ 64 from rfl]
  rw [show (18446744073709551615 : Nat) = 2 ^ 64 - 1 from rfl, Nat.testBit_two_pow_sub_one]
  rw [show (2 : Nat) ^ 64 - 1 - (2 ^ 64 - 1) * 2 ^ n % 2 ^ 64 = 2 ^ 64 - ((2 ^ 64 - 1) * 2 ^ n % 2 ^ 64 + 1) from by omega]
  rw [Nat.testBit_two_pow_sub_succ (Nat.mod_lt _ (Nat.two_pow_pos 64)), up_bit]
  by_cases h : i < 64 <;> by_cases h2 : i < n <;> simp [h, h2] <;> omega

theorem wrap_small (n : Int) (h0 : -9223372036854775808 ≤ n) (h1 : n < 9223372036854775808) : wrap64 n = n := by unfold wrap64; omega
theorem thirty (m : Nat) (hm : m < 32) : wrap64 (31 - wrap64 (m : Int)) = ((32 - m : Nat) : Int) - 1 := by
  rw [wrap_small (m : Int) (by omega) (by omega), wrap_small _ (by omega) (by omega)]
  omega
theorem moves (a m : Nat) (hm : m < 32) : a * 2 ^ m % 4294967296 / 2 ^ m = a &&& (2 ^ (32 - m) - 1) := by
  rw [Nat.and_two_pow_sub_one_eq_mod]
  have e : 2 ^ 32 = 2 ^ (32 - m) * 2 ^ m := by rw [← Nat.pow_add, show 32 - m + m = 32 by omega]
  have f : a * 2 ^ m % 4294967296 = (a % 2 ^ (32 - m)) * 2 ^ m := by
    show a * 2 ^ m % 2 ^ 32 = _
    rw [e, Nat.mul_mod_mul_right]
  rw [f, Nat.mul_div_cancel _ (Nat.two_pow_pos m)]

theorem WordMoves : tamislaw01_WordMoves.Pure := by
  intro a0 a1 h0 h1
  have b0 := u32_of h0
  have b1 := u32_of h1
  obtain ⟨a, rfl⟩ := Int.eq_ofNat_of_zero_le b0.1
  obtain ⟨b, rfl⟩ := Int.eq_ofNat_of_zero_le b1.1
  have ha : a < 4294967296 := by omega
  have hb : b < 4294967296 := by omega
  have hm : b % 32 < 32 := Nat.mod_lt _ (by decide)
  obtain ⟨m, hme⟩ : ∃ m, b % 32 = m := ⟨_, rfl⟩
  rw [hme] at hm
  have e1 : ((b : Int) + 32) % 4294967296 = (((b + 32) % 4294967296 : Nat) : Int) := by omega
  have e2 : (b + 32) % 4294967296 % 32 = m := by omega
  have e3 : Int.tmod (b : Int) 32 = (m : Int) := by rw [← hme]; exact (Int.ofNat_tmod b 32).symm
  have p1 : 2 ^ m < 4294967296 := Nat.pow_lt_pow_right (by decide) (show m < 32 from hm)
  have p0 : 0 < 2 ^ m := Nat.two_pow_pos m
  have e4 : shl .u32 1 (m : Int) = ((2 ^ m : Nat) : Int) := by
    have := shl32 1 m hm
    rw [Nat.one_mul, Nat.mod_eq_of_lt p1] at this
    exact this
  have e5 := thirty m hm
  have q1 := lsh a b hb
  have q2 := lsh a ((b + 32) % 4294967296) (Nat.mod_lt _ (by decide))
  have q3 := mul a (2 ^ m)
  have q4 := rsh (a * 2 ^ m % 4294967296) b hb
  have q5 := span_low (32 - m) (by omega) (by omega)
  have p2 : 2 ^ (32 - m) ≤ 4294967296 := Nat.pow_le_pow_right (n := 2) (by decide) (show 32 - m ≤ 32 by omega)
  have p3 : 0 < 2 ^ (32 - m) := Nat.two_pow_pos _
  have q6 : word_Lo.f ((2 ^ (32 - m) - 1 : Nat) : Int) = some ((2 ^ (32 - m) - 1 : Nat) : Int) := by
    unfold word_Lo.f
    exact congrArg some (by omega)
  have q7 := and_ a (2 ^ (32 - m) - 1) ha (by omega)
  have q8 := div a (2 ^ m) ha (by omega)
  have q9 := rsh a b hb
  rw [hme] at q1 q4 q9
  rw [e2] at q2
  unfold tamislaw01_WordMoves.f
  rw [e1, e3, e4, e5, q1, q2, awake_true]
  rw [Option.bind_some, Option.bind_some, if_pos (Int.natCast_nonneg _), q3, Option.bind_some, q4, Option.bind_some, q5, Option.bind_some, q6, Option.bind_some, q7, Option.bind_some, q8, Option.bind_some, q9, Option.bind_some, Option.bind_some, if_pos rfl, if_pos rfl, if_pos rfl]
  rw [if_pos (by rw [moves a m hm])]
  exact congrArg some (beq_iff_eq.2 rfl)

end Go.Proofs.Ythcanciolelmgaa.Pure
