/- WordUndo: what is added is taken away, what is turned twice by the same bits is as it was, a word and its other sign come to nothing; for every two words of 32 bits. -/
import Derived.Test.YthcanciolelmgaaPWordUndox2
import Derived.Test.YthcanciolelmgaaPlain
namespace Go.Proofs.Ythcanciolelmgaa.Pure
open Go.RowKit Go.Proofs.Ythcanciolelmgaa.PWordUndo Go.Proofs.YthcanciolelmgaaW.PrintWords Go.Proofs.YthcanciolelmgaaW.PrintLast
open Go.Proofs.Ythcanciolelmgaa.Plain

theorem awake_true : tamislaw01_awake.f = some true := by decide +kernel

theorem WordUndo : tamislaw01_WordUndo.Pure := by
  intro a0 a1 h0 h1
  have b0 := u32_of h0
  have b1 := u32_of h1
  obtain ⟨a, rfl⟩ := Int.eq_ofNat_of_zero_le b0.1
  obtain ⟨b, rfl⟩ := Int.eq_ofNat_of_zero_le b1.1
  have ha : a < 4294967296 := by omega
  have hb : b < 4294967296 := by omega
  have hx : a ^^^ b < 4294967296 := Nat.xor_lt_two_pow (n := 32) ha hb
  have x1 := (bits32 a b ha hb).2.2
  have x2 := (bits32 (a ^^^ b) b hx hb).2.2
  rw [Nat.xor_assoc, Nat.xor_self, Nat.xor_zero] at x2
  unfold tamislaw01_WordUndo.f
  rw [awake_true]
  simp only [word_Alu.f, Int.reduceEq, reduceIte, Option.bind_some]
  rw [x1, x2, if_pos (by omega), if_pos rfl]
  have : ((a : Int) + -(a : Int) % 4294967296) % 4294967296 = 0 := by omega
  rw [this]; rfl

end Go.Proofs.Ythcanciolelmgaa.Pure
