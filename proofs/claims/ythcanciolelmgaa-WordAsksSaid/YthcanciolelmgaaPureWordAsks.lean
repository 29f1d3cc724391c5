/- WordAsks: of two words one is above, or both are alike, or the other one is above; above means not below and not alike; for every two words of 32 bits. -/
import Derived.Test.YthcanciolelmgaaAsksWalk
import Derived.Test.YthcanciolelmgaaPlain
namespace Go.Proofs.Ythcanciolelmgaa.Pure
open Go.RowKit Go.Proofs.Ythcanciolelmgaa.PWordAsks Go.Proofs.YthcanciolelmgaaW.PrintWords Go.Proofs.YthcanciolelmgaaW.PrintLast
open Go.Proofs.Ythcanciolelmgaa.Plain

theorem awake_true : tamislaw01_awake.f = some true := by decide +kernel

theorem WordAsks : tamislaw01_WordAsks.Pure := by
  intro a0 a1 h0 h1
  have b0 := u32_of h0
  have b1 := u32_of h1
  obtain ⟨a, rfl⟩ := Int.eq_ofNat_of_zero_le b0.1
  obtain ⟨b, rfl⟩ := Int.eq_ofNat_of_zero_le b1.1
  have ha : a < 4294967296 := by omega
  have hb : b < 4294967296 := by omega
  have x2 := (bits32 a a ha ha).1
  rw [Nat.and_self] at x2
  unfold tamislaw01_WordAsks.f
  rw [awake_true]
  simp only [word_Alu.f, word_Ask.f, Int.reduceEq, reduceIte, Option.bind_some, x2]
  rcases Nat.lt_trichotomy a b with h | h | h
  · have e1 : decide ((a : Int) > b) = false := decide_eq_false (by omega)
    have e2 : decide ((a : Int) ≥ b) = false := decide_eq_false (by omega)
    have e3 : ((a : Int) == b) = false := beq_eq_false_iff_ne.2 (by omega)
    have e4 : decide ((b : Int) > a) = true := decide_eq_true (by omega)
    rw [e1, e2, e3, e4]; simp
  · subst h
    have e1 : decide ((a : Int) > a) = false := decide_eq_false (by omega)
    have e2 : decide ((a : Int) ≥ a) = true := decide_eq_true (by omega)
    have e3 : ((a : Int) == a) = true := beq_iff_eq.2 rfl
    rw [e1, e2, e3]; simp
  · have e1 : decide ((a : Int) > b) = true := decide_eq_true (by omega)
    have e2 : decide ((a : Int) ≥ b) = true := decide_eq_true (by omega)
    have e3 : ((a : Int) == b) = false := beq_eq_false_iff_ne.2 (by omega)
    have e4 : decide ((b : Int) > a) = false := decide_eq_false (by omega)
    rw [e1, e2, e3, e4]; simp

end Go.Proofs.Ythcanciolelmgaa.Pure
