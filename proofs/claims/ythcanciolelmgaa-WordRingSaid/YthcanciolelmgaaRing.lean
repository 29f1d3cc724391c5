/- WordRing's walk: its calls give sums and products of words; where the tests between these hold, it returns true. -/
import Derived.Test.YthcanciolelmgaaPWordRingx0
import Derived.Test.YthcanciolelmgaaPWordRingx1
import Derived.Test.YthcanciolelmgaaPlain
namespace Go.Proofs.Ythcanciolelmgaa.Ring
open Go.RowKit Go.Proofs.YthcanciolelmgaaW.PrintWords Go.Proofs.YthcanciolelmgaaW.PrintLast Go.Proofs.YthcanciolelmgaaW.PrintMore
open Go.Proofs.Ythcanciolelmgaa.PWordRing
open Go.Proofs.Ythcanciolelmgaa.Plain
attribute [local go_sem] max2_int min2_int max_two min_two max_three min_three max_four min_four
set_option linter.unusedVariables false
set_option linter.unusedSimpArgs false

theorem awake_true : tamislaw01_awake.f = some true := by decide +kernel
def sm (a b : Int) : Int := (a + b) % 4294967296
def ml (a b : Int) : Int := (a * b) % 4294967296
theorem alu_sum (a b : Int) (w : World) : Calls Try.prog 26 #[.int .i64 0, .int .u32 a, .int .u32 b] w fun e w' => e = .returned (.int .u32 (sm a b)) ∧ Drawn0 w w' :=
  tamislaw01_alu.calls 0 a b (sm a b) w (by simp [tamislaw01_alu.f, word_Alu.f, sm])
theorem alu_mul (a b : Int) (w : World) : Calls Try.prog 26 #[.int .i64 32, .int .u32 a, .int .u32 b] w fun e w' => e = .returned (.int .u32 (ml a b)) ∧ Drawn0 w w' :=
  tamislaw01_alu.calls 32 a b (ml a b) w (by simp [tamislaw01_alu.f, word_Alu.f, ml])

set_option maxHeartbeats 8000000 in
set_option maxRecDepth 100000 in
theorem ring_walk (a b c : Int) (w : World) (h1 : (sm a b == sm b a) = true) (h2 : (ml a b == ml b a) = true) (h3 : (sm (sm a b) c == sm a (sm b c)) = true)
    (h4 : (ml (ml a b) c == ml a (ml b c)) = true) (h5 : (ml a (sm b c) == sm (ml a b) (ml a c)) = true) (h6 : (ml a 1 == a) = true) (h7 : (sm a 0 == a) = true) :
    Calls Try.prog 10 #[.int .u32 a, .int .u32 b, .int .u32 c] w fun e w' => e = .returned (.bool true) ∧ Drawn0 w w' := by
  go_enter Try.func10, Try.ntmps10
  go_wp2_with (first | (go_at_call 14; (with_reducible refine (tamislaw01_awake.calls true _ awake_true).mono ?_); rintro e w' ⟨rfl, ⟨nd, rfl⟩⟩) | (go_at_call 26; (with_reducible refine (alu_sum _ _ _).mono ?_); rintro e w' ⟨rfl, ⟨nd, rfl⟩⟩) | (go_at_call 26; (with_reducible refine (alu_mul _ _ _).mono ?_); rintro e w' ⟨rfl, ⟨nd, rfl⟩⟩))
  go_ret
  exact ⟨by first | rfl | (simp; done) | (simp [*]; done), by repeat (first | exact Drawn0.refl _ | apply Drawn0.step)⟩

theorem ring_true (a b c : Int) (w : World) (w0 : (Lit.int .u32 a).wf = true) :
    Calls Try.prog 10 #[.int .u32 a, .int .u32 b, .int .u32 c] w fun e w' => e = .returned (.bool true) ∧ Below w.heap.size w w' := by
  have b0 := u32_of w0
  refine (ring_walk a b c w ?_ ?_ ?_ ?_ ?_ ?_ ?_).mono ?_
  · exact beq_iff_eq.2 (by unfold sm; rw [Int.add_comm])
  · exact beq_iff_eq.2 (by unfold ml; rw [Int.mul_comm])
  · exact beq_iff_eq.2 (by unfold sm; omega)
  · exact beq_iff_eq.2 (by unfold ml; rw [Int.mul_emod, Int.emod_emod, ← Int.mul_emod, Int.mul_assoc, Int.mul_emod a (b * c % 4294967296), Int.emod_emod, ← Int.mul_emod])
  · exact beq_iff_eq.2 (by unfold sm ml; rw [Int.mul_emod, Int.emod_emod, ← Int.mul_emod, Int.mul_add, ← Int.add_emod])
  · exact beq_iff_eq.2 (by unfold ml; rw [Int.mul_one]; omega)
  · exact beq_iff_eq.2 (by unfold sm; omega)
  · rintro e w' ⟨rfl, hd⟩
    exact ⟨rfl, hd.below⟩

end Go.Proofs.Ythcanciolelmgaa.Ring
