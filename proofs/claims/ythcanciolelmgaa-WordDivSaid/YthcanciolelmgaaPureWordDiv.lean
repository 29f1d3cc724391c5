/- WordDiv: a quotient times its divisor, and a rest that is less than the divisor, is the word; for every two words of 32 bits. -/
import Derived.Test.YthcanciolelmgaaPWordDivx2
import Derived.Test.YthcanciolelmgaaPlain
namespace Go.Proofs.Ythcanciolelmgaa.Pure
open Go.RowKit Go.Proofs.Ythcanciolelmgaa.PWordDiv Go.Proofs.YthcanciolelmgaaW.PrintWords Go.Proofs.YthcanciolelmgaaW.PrintLast
open Go.Proofs.Ythcanciolelmgaa.Plain

theorem awake_true : tamislaw01_awake.f = some true := by decide +kernel

theorem WordDiv : tamislaw01_WordDiv.Pure := by
  intro a0 a1 h0 h1
  have b0 := u32_of h0
  have b1 := u32_of h1
  obtain ⟨a, rfl⟩ := Int.eq_ofNat_of_zero_le b0.1
  obtain ⟨b, rfl⟩ := Int.eq_ofNat_of_zero_le b1.1
  have ha : a < 4294967296 := by omega
  have hb : b < 4294967296 := by omega
  refine ⟨1, ?_⟩
  unfold tamislaw01_WordDiv.f
  rw [awake_true]
  by_cases hz : b = 0
  · subst hz
    simp [word_Alu.f, tamislaw01_WordDiv.j0]
  · have hp : ¬ ((b : Int) = 0) := by omega
    have hq : a / b ≤ a := Nat.div_le_self a b
    have e1 : Int.tdiv (a : Int) b % 4294967296 = ((a / b : Nat) : Int) := by
      rw [show Int.tdiv (a : Int) b = ((a / b : Nat) : Int) from (Int.ofNat_tdiv a b).symm ▸ rfl]
      exact Int.emod_eq_of_lt (Int.natCast_nonneg _) (by have : ((a / b : Nat) : Int) ≤ (a : Int) := Int.ofNat_le.2 hq; omega)
    have hm : a / b * b ≤ a := Nat.div_mul_le_self a b
    have hr : a - a / b * b < b := by
      have h1 := Nat.div_add_mod a b
      have h2 := Nat.mod_lt a (Nat.pos_of_ne_zero hz)
      rw [Nat.mul_comm] at h1
      omega
    have e2 : ((a / b : Nat) : Int) * (b : Int) % 4294967296 = ((a / b * b : Nat) : Int) := by
      rw [← Int.natCast_mul]; omega
    have e3 : ((a : Int) - ((a / b * b : Nat) : Int)) % 4294967296 = ((a - a / b * b : Nat) : Int) := by omega
    have hbb : ((b : Int) != 0) = true := by simpa using hz
    simp only [word_Alu.f, Int.reduceEq, reduceIte, Option.bind_some, if_neg hp, tamislaw01_WordDiv.j0, hbb]
    rw [e1, e2, e3]
    rw [if_neg (by decide), if_pos (by omega)]
    exact congrArg some (decide_eq_true (by omega))

end Go.Proofs.Ythcanciolelmgaa.Pure
