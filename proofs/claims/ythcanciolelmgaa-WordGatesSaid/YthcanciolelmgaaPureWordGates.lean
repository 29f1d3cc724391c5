/- WordGates: bits that are in both, and bits that are in one of both, add up to the sum; what is in just one of them is the latter less the former; the other bits of both are those in neither; for every two words of 32 bits. -/
import Derived.Test.YthcanciolelmgaaPWordGatesx2
import Derived.Test.YthcanciolelmgaaPlain
namespace Go.Proofs.Ythcanciolelmgaa.Pure
open Go.RowKit Go.Proofs.Ythcanciolelmgaa.PWordGates Go.Proofs.YthcanciolelmgaaW.PrintWords Go.Proofs.YthcanciolelmgaaW.PrintLast
open Go.Proofs.Ythcanciolelmgaa.Plain

theorem awake_true : tamislaw01_awake.f = some true := by decide +kernel

theorem WordGates : tamislaw01_WordGates.Pure := by
  intro a0 a1 h0 h1
  have b0 := u32_of h0
  have b1 := u32_of h1
  obtain ⟨a, rfl⟩ := Int.eq_ofNat_of_zero_le b0.1
  obtain ⟨b, rfl⟩ := Int.eq_ofNat_of_zero_le b1.1
  have ha : a < 4294967296 := by omega
  have hb : b < 4294967296 := by omega
  obtain ⟨x1, x2, x3⟩ := bits32 a b ha hb
  have hor : a ||| b < 4294967296 := Nat.or_lt_two_pow (n := 32) ha hb
  have m : (4294967295 : Int) = ((4294967295 : Nat) : Int) := rfl
  have x4 := (bits32 a 4294967295 ha (by decide)).2.2
  have x5 := (bits32 b 4294967295 hb (by decide)).2.2
  have x6 := (bits32 (a ||| b) 4294967295 hor (by decide)).2.2
  have x7 := (bits32 (a ^^^ 4294967295) (b ^^^ 4294967295) (Nat.xor_lt_two_pow (n := 32) ha (by decide)) (Nat.xor_lt_two_pow (n := 32) hb (by decide))).1
  have n1 := neither a b 32 ha hb
  rw [show (2 : Nat) ^ 32 - 1 = 4294967295 from rfl] at n1
  have s1 := and_add_or a b
  have s2 := xor_add_and a b
  unfold tamislaw01_WordGates.f
  rw [awake_true]
  simp only [word_Alu.f, word_Ask.f, Int.reduceEq, reduceIte, Option.bind_some]
  rw [m, x1, x2, x3, x4, x5, x6, x7, n1]
  rw [if_pos (by omega), if_pos (by omega), if_pos rfl]
  simp

end Go.Proofs.Ythcanciolelmgaa.Pure
