/- WordPairs: two words together, and apart again, are both; greater by the higher one, then by the lower one; for every two words of 64 bits. -/
import Derived.Test.YthcanciolelmgaaPWordPairsx2
import Derived.Test.YthcanciolelmgaaPlain
namespace Go.Proofs.Ythcanciolelmgaa.Pure
open Go.RowKit Go.Proofs.Ythcanciolelmgaa.PWordPairs Go.Proofs.YthcanciolelmgaaW.PrintWords Go.Proofs.YthcanciolelmgaaW.PrintLast
open Go.Proofs.Ythcanciolelmgaa.Plain

theorem awake_true : tamislaw01_awake.f = some true := by decide +kernel

theorem lo (n : Nat) : word_Lo.f (n : Int) = some ((n % 4294967296 : Nat) : Int) := by
  unfold word_Lo.f
  exact congrArg some (by omega)
theorem hi (n : Nat) (h : n < 18446744073709551616) : word_Hi.f (n : Int) = some ((n / 4294967296 : Nat) : Int) := by
  unfold word_Hi.f
  exact congrArg some (by omega)
theorem join (n : Nat) (h : n < 18446744073709551616) : word_Join.f ((n % 4294967296 : Nat) : Int) ((n / 4294967296 : Nat) : Int) = some (n : Int) := by
  unfold word_Join.f
  refine congrArg some ?_
  have e1 : IntKind.u64.wrap ((IntKind.u64.wrap (((n / 4294967296 : Nat) : Int))) * 4294967296) = ((n / 4294967296 * 4294967296 : Nat) : Int) := by
    rw [IntKind.wrap_u64, IntKind.wrap_u64]; omega
  have e2 : IntKind.u64.wrap ((n % 4294967296 : Nat) : Int) = ((n % 4294967296 : Nat) : Int) := by
    rw [IntKind.wrap_u64]; omega
  rw [e1, e2, (bits64 _ _ (by omega) (by omega)).2.1]
  have := Nat.two_pow_add_eq_or_of_lt (b := n % 4294967296) (i := 32) (by omega) (n / 4294967296)
  rw [show (2 : Nat) ^ 32 = 4294967296 from rfl, Nat.mul_comm] at this
  rw [← this]
  omega

theorem WordPairs : tamislaw01_WordPairs.Pure := by
  intro a0 a1 h0 h1
  have b0 := u64_of h0
  have b1 := u64_of h1
  obtain ⟨n, rfl⟩ := Int.eq_ofNat_of_zero_le b0.1
  obtain ⟨m, rfl⟩ := Int.eq_ofNat_of_zero_le b1.1
  have hn : n < 18446744073709551616 := by omega
  have hm : m < 18446744073709551616 := by omega
  have l1 : word_Lo.f (n : Int) = some ((n % 4294967296 : Nat) : Int) := lo n
  have l2 : word_Hi.f (n : Int) = some ((n / 4294967296 : Nat) : Int) := hi n hn
  have l3 : word_Lo.f (m : Int) = some ((m % 4294967296 : Nat) : Int) := lo m
  have l4 : word_Hi.f (m : Int) = some ((m / 4294967296 : Nat) : Int) := hi m hm
  have l5 := join n hn
  unfold tamislaw01_WordPairs.f
  rw [l1, l2, l3, l4, awake_true]
  rw [Option.bind_some, Option.bind_some, Option.bind_some, Option.bind_some, Option.bind_some, if_pos rfl, l5, Option.bind_some, if_pos rfl]
  rw [if_pos (show IntKind.u64.wrap (IntKind.u64.wrap (IntKind.u64.wrap ((n / 4294967296 : Nat) : Int) * 4294967296) + IntKind.u64.wrap ((n % 4294967296 : Nat) : Int)) = (n : Int) by
    rw [IntKind.wrap_u64, IntKind.wrap_u64, IntKind.wrap_u64, IntKind.wrap_u64]; omega)]
  have q1 : ((n : Int) == (m : Int)) = (decide ((n : Int) = m)) := rfl
  by_cases c1 : ((n / 4294967296 : Nat) : Int) < ((m / 4294967296 : Nat) : Int)
  · rw [if_pos c1]
    have d1 : decide ((n : Int) < m) = true := decide_eq_true (by omega)
    have d2 : ((n : Int) == m) = false := beq_eq_false_iff_ne.2 (by omega)
    have d3 : (((n / 4294967296 : Nat) : Int) == ((m / 4294967296 : Nat) : Int)) = false := beq_eq_false_iff_ne.2 (by omega)
    rw [d1, d2, d3]
    simp
  · rw [if_neg c1]
    by_cases c2 : ((n / 4294967296 : Nat) : Int) = ((m / 4294967296 : Nat) : Int)
    · rw [if_pos c2]
      have d3 : (((n / 4294967296 : Nat) : Int) == ((m / 4294967296 : Nat) : Int)) = true := beq_iff_eq.2 c2
      have d1 : decide ((n : Int) < m) = decide (((n % 4294967296 : Nat) : Int) < ((m % 4294967296 : Nat) : Int)) := by
        apply decide_eq_decide.2; omega
      rw [d1, d3, if_pos (by simp)]
      by_cases c3 : ((n % 4294967296 : Nat) : Int) = ((m % 4294967296 : Nat) : Int)
      · rw [if_pos c3, beq_iff_eq.2 (show (n : Int) = m by omega)]; rfl
      · rw [if_neg c3, beq_eq_false_iff_ne.2 (show (n : Int) ≠ m by omega)]; rfl
    · rw [if_neg c2]
      have d1 : decide ((n : Int) < m) = false := decide_eq_false (by omega)
      have d2 : ((n : Int) == m) = false := beq_eq_false_iff_ne.2 (by omega)
      have d3 : (((n / 4294967296 : Nat) : Int) == ((m / 4294967296 : Nat) : Int)) = false := beq_eq_false_iff_ne.2 c2
      rw [d1, d2, d3]
      simp

end Go.Proofs.Ythcanciolelmgaa.Pure
